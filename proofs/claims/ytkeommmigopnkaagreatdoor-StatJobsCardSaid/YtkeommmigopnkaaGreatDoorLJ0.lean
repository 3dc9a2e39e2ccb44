/-
  Parts of the proof: Rec JbA StSm StJb.
-/
import Derived.Test.YtkeommmigopnkaaGreatDoorKF2
import Derived.Test.YtkeommmigopnkaaGreatDoorKF3
import Derived.Test.YtkeommmigopnkaaGreatDoorKF12
import Derived.Test.YtkeommmigopnkaaGreatDoorKF18
import Derived.Test.YtkeommmigopnkaaGreatDoorKF23
set_option linter.unusedVariables false
set_option linter.unusedSimpArgs false
set_option maxHeartbeats 32000000
set_option maxRecDepth 100000
namespace Go.Sx
open Go.RowKit
section
variable {α:Type} {sz:Nat} [E:Enc α sz]
end
section
variable {α:Type} {sz:Nat} [E:Enc α sz]
end
section
variable {α:Type} {sz:Nat} [E:Enc α sz]
theorem rdr {w:World} {v:Value} {l:List α} [h:RdC w E v l]:RdR w v l:=h.rd
end
section
variable {P:Program} {w0 w:World} {P0 F:HP} {α:Type} {sz:Nat} {E:Enc α sz} {t e bytes:Nat} {z:Value} {l l2:List α} {o:Oper} {a:Act} {Q:Exit→Act→World→Prop} {s x:Operand} {ad sa:Option Addr} {m c sn sc:Nat}
end
section
variable {α:Type} {sz:Nat} [E:Enc α sz]
end
section
variable {P:Program} {w:World} {α:Type} {sz:Nat} {E:Enc α sz} {t e bytes:Nat} {z:Value} {l:List α} {ops:Array Oper} {rest:List Oper} {o:Oper} {a:Act} {Q:Exit→Act→World→Prop} {s lo hi:Operand} {sa:Option Addr} {sn sc:Nat} {i j:Int}
end
section
variable {α:Type} {sz:Nat} [E:Enc α sz]
end
end Go.Sx
namespace Go.Proofs.YtkeommmigopnkaaGreatDoor
open Go.RowKit Go.Sx Go.Hi
theorem jb_at {wr:World} {a:Option Addr} {n c:Nat} {l:List Jb} {k:Nat} (h:RdR wr (.slice a n c) l) (hlt:k<l.length):∃ g off,a=some ⟨g,off,none⟩∧wr.rangeAt g (off+k*9) (jbCells (jg l k)):=by
 obtain ⟨a2,cap2,g,off2,e,h3,h4,h5,h6⟩:=h;simp only [Value.slice.injEq] at e;obtain ⟨rfl,_,rfl⟩:=e;obtain rfl:=h5 (by rintro rfl;simp at hlt);refine ⟨g,off2,rfl,fun j v hj=>?_⟩;have hj9:j<9:=(List.getElem?_eq_some_iff.1 hj).1;have h7:=cellsOf_at (E:=encJb) (l:=l) (k:=k) (c:=j) hlt hj9;rw [Nat.add_assoc];exact h6 _ _ (h7.trans hj)
end Go.Proofs.YtkeommmigopnkaaGreatDoor
namespace Go.Proofs.YtkeommmigopnkaaGreatDoor
open Go.RowKit Go.Sx Go.Au Go.Hi Go.St
theorem rSameJ (v u:Value) (l:List Jb) (w0 w:World) (P:HP) (hs:Sat w0 w P) (h:∀ w,Sat w0 w P→RdR w v l) (hm:∀ w,Sat w0 w P→RdR w u l) :
  Calls Tryz.prog 10 #[v,u] w (RetV w0 (.bool true) P):=by
 obtain ⟨a,cap,b,off,rfl,hcap,hbig,_,_⟩:=h w hs;obtain ⟨a2,cap2,b2,off2,rfl,hcap2,hbig2,_,_⟩:=hm w hs;unfold maxLen at hbig hbig2;have H:=hid h;have HM:=hid hm;clear h hm
 go_enter Tryz.func10,Tryz.ntmps10
 go_wp2_with fail
 go_loopw [5] (fun i wr=>∃ k:Nat,k≤l.length∧i=.int .i64 k∧Sat w0 wr P) (fun i _=>l.length-(intOf i).toNat)
 case atStart=>exact ⟨0,Nat.zero_le _,rfl,hs⟩
 case round =>
  obtain ⟨k,hk,rfl,hsr⟩:=hrel;clear hs
  by_cases hlt:k<l.length
  ·have d1:decide (k<l.length)=true:=decide_eq_true hlt;have i1:(k:Int)<(l.length:Int):=by omega
   obtain ⟨ag,ao,rfl,hr1⟩:=jb_at (H.out wr hsr) hlt;obtain ⟨bg,bo,rfl,hr2⟩:=jb_at (HM.out wr hsr) hlt;have HR1:=hid (fun (w:World) (h:Sat w0 w P)=>(show w.rangeAt ag (ao+k*9) (jbCells (jg l k)) by
    obtain ⟨g2,o2,e,hrow⟩:=jb_at (H.out w h) hlt;simp only [Option.some.injEq,Addr.mk.injEq] at e;obtain ⟨rfl,rfl,_⟩:=e;exact hrow))
   have HR2:=hid (fun (w:World) (h:Sat w0 w P)=>(show w.rangeAt bg (bo+k*9) (jbCells (jg l k)) by
    obtain ⟨g2,o2,e,hrow⟩:=jb_at (HM.out w h) hlt;simp only [Option.some.injEq,Addr.mk.injEq] at e;obtain ⟨rfl,rfl,_⟩:=e;exact hrow))
   generalize jg l k=x at *;obtain ⟨jt,jn,jr,jf,je,jm,jl,jb,jy⟩:=x;clear hr1 hr2;go_wp2_with fail;refine wp_region_early (fun w'=>Sat w0 w' P) [(0,true),(1,true),(2,true),(3,true),(4,true),(5,true),(6,true),(7,true),(8,true)] (by kernel_rfl) (by kernel_rfl) (fun _ _ _ _ h=>h) hsr.drew ?_
   iterate 3 (first | refine early_S ?_ | refine early_N ?_)
   refine early_load_row (cells:=[.int .i64 jt,.int .u32 jn,.int .u64 jr,.int .u64 jf,.bool je,.bool jm,.int .u64 jl,.int .u64 jb,.bool jy]) rfl rfl rfl rfl (fun w h=>HR1.out w h) Tryz.underlying47 rfl (by kernel_rfl) ?_;simp only [Act.put,zqA,zqP,zqQ]
   iterate 3 (first | refine early_S ?_ | refine early_N ?_)
   refine early_load_row (cells:=[.int .i64 jt,.int .u32 jn,.int .u64 jr,.int .u64 jf,.bool je,.bool jm,.int .u64 jl,.int .u64 jb,.bool jy]) rfl rfl rfl rfl (fun w h=>HR2.out w h) Tryz.underlying47 rfl (by kernel_rfl) ?_;simp only [Act.put,zqA,zqP,zqQ]
   iterate 1 (first | refine early_S ?_ | refine early_N ?_)
   refine early_done ?_;go_wp2_with fail;go_roundw
   case rel=>exact ⟨k+1,by omega,by go_num,hsr.drew⟩
   case measure=>simp [intOf];omega
  ·have d1:decide (k<l.length)=false:=decide_eq_false hlt;go_wp2_with fail;go_ret;exact ⟨rfl,hsr⟩
end Go.Proofs.YtkeommmigopnkaaGreatDoor
namespace Go.Proofs.YtkeommmigopnkaaGreatDoor
open Go.RowKit Go.Sx Go.Dl Go.Lk Go.Rq Go.Au Go.Hi Go.St
theorem staysE_its {w0:World} {P F:HP} {v:Value} {l:List Ev} [p:PullR P encEv v l F]:StaysE w0 P v l:=fun _ hs=>(hs.perm p.eq).rdR
theorem jobsW (v u:Value) (c:Cf) (rg:CfRng c) (l:List Ev) (hev:∀ e∈l,EvOk e) (w0:World) (hr:RdCf w0 v c) (hu:RdR w0 u l) (hT:Tab w0) :
  Calls Tryz.prog 3 #[v,u] w0 (RetV w0 (.bool true) emp):=by
 have hs:=Sat.start w0;have hA:=hid (fun (w:World) (h:Sat w0 w any)=>lawAwake28 w (hT.later h));have hF:=hid (fun (w:World) (h:Sat w0 w any)=>hFew v u c l w (hr.later h) (hu.later h));have hC:=hid (fun (hl:l.length≤600) (w:World) (G:HP) (h:Sat w0 w G)=>rCheck v u c rg l (by omega) hev w0 w G hr (staysE_old hu) h);have hJ:=hid (fun (hl:l.length≤600) (x:Value) (w:World) (G:HP) (h:Sat w0 w G) (hst:StaysE w0 G x l)=>stJobs v x c rg l (by omega) hev w0 w G hr hst h);have HGe:=hid (fun (h:stCh c l=0)=>good_of rg hev h);have hR:=hid (fun (G:GoodE c l) (hf:FewP l) (w:World) (F:HP) (h:Sat w0 w F)=>rRead v u c l G (span_of G hf) hf.1 w0 w F hr hu h);obtain ⟨ua,uc,rfl⟩:∃ ua uc,u=.slice ua l.length uc:=by
  obtain ⟨a,cap,b,off,e,_⟩:=hu;exact ⟨a,cap,e⟩
 have hcap:=hu.caps;unfold maxLen at hcap;haveI:OldRec w0 encEv (.slice ua l.length uc) l:=⟨hu⟩;obtain ⟨ta,la,sa,qa,ma,tc,lc,sc,qc,mc,rfl,h1,h2,h3,h4,h5⟩:=hr.form;clear hr hu h1 h2 h3 h4 h5 hT hev rg
 go_enter Tryz.func3,Tryz.ntmps3
 go_wp2_with fail;refine (hA.out _ own_left).mono ?_;rintro en w1 ⟨rfl,hp⟩;have hs1:=Sat.past (w0:=w0) own_it hp;clear hp hs;go_wp2_with fail;refine (hF.out _ own_left).mono ?_;rintro en w2 ⟨z,rfl,hp,hz⟩;have hs2:=Sat.past (w0:=w0) own_it hp;clear hp hs1 hF
 cases z
 ·clear hz;go_wp2_with fail;refine (hA.out _ own_left).mono ?_;rintro en w9 ⟨rfl,hp⟩;have hs9:=Sat.past (w0:=w0) own_it hp;clear hp;go_wp2_with fail;go_ret;exact ⟨rfl,own_left⟩
 have Hfew:=hid (hz rfl);have H6:=hid Hfew.out.1;have hl6:l.length≤600:=Hfew.out.1;clear hz;go_wp2_with fail;generalize w0.heap.size=cb at *;refine wp_gen (w0:=w0) ?_;intro wy hsy;clear hs2;refine wp_region_early (fun w'=>Sat w0 w' (pts cb 0 [.slice ta c.ts.length tc,.slice la c.ls.length lc,.int .i64 c.mutexes,.slice sa c.sems.length sc,.slice qa c.queues.length qc,.slice ma c.timers.length mc,.int .i64 c.table,.int .u32 c.mask,.int .u32 c.filter,.int .i64 c.charge,.int .u64 c.cycle,.int .u64 c.count]*any)) [(0,true),(2,true),(1,false),(3,false),(4,false),(5,true),(6,true),(7,true),(8,true),(9,true)] (by kernel_rfl) (by kernel_rfl) (fun _ _ _ _ h=>h) own_left ?_
 iterate 2 (first | refine early_S ?_ | refine early_N ?_)
 refine early_G rfl (by rfl) (fun K hK=>?_);go_wp2_with fail;refine ⟨own_left,?_⟩;refine early_G rfl (by rfl) (fun K hK=>?_);refine wp_append_recs rfl rfl rfl (by omega) ?_;intro ap ac aL aw ahL ah1 ah2 ahs _;obtain rfl:l=aL:=by have:=ahL.out;simpa using this.symm
 refine hK _ _ ⟨own_left,?_⟩;clear hK K hsy ahL ah1 ah2;simp only [Act.put,zqA,zqP,zqQ];refine early_G rfl (by rfl) (fun K hK=>?_);go_wp2_with fail;refine (hJ.out H6.out _ _ _ own_it staysE_its).mono ?_;rintro en w4 hJ1;clear hJ
 rcases hJ1 with ⟨h0,rfl,hs4⟩ | ⟨h0,aa,ka,rfl,hs4⟩
 ·clear hR HGe;obtain ⟨x,hx⟩:∃ x,x=stCh c l:=⟨_,rfl⟩;rw [← hx] at hC h0;simp only [← hx];clear hx;have e0:(x != 0)=true:=by simp [h0]
  have e1:(x != x)=false:=by simp
  have e2:(x==x)=true:=by simp
  clear h0;go_wp2_with fail;refine ⟨own_left,?_⟩
  iterate 5 (first | refine early_S ?_ | refine early_N ?_)
  refine early_done ?_;go_wp2_with fail;refine (hC.out H6.out _ _ own_it).mono ?_;rintro en w5 ⟨rfl,hs5⟩;clear ahs hs4;go_wp2_with fail;go_ret;exact ⟨rfl,own_left⟩
 ·have hG:=hid (HGe.out h0);have hR:=hid (hR.out hG.out Hfew.out);rw [h0] at hC;clear h0;obtain ⟨AL,hAL⟩:∃ L,L=(Bk.read (tks0 c) l).jb:=⟨_,rfl⟩;rw [← hAL] at hs4;simp only [← hAL];have HAL:=hid hAL;clear hAL;go_wp2_with fail;refine ⟨own_left,?_⟩
  iterate 5 (first | refine early_S ?_ | refine early_N ?_)
  refine early_done ?_;go_wp2_with fail;refine (hC.out H6.out _ _ own_it).mono ?_;rintro en w5 ⟨rfl,hs5⟩;clear ahs hs4;go_wp2_with fail;refine (hR.out _ _ own_it).mono ?_;rintro en w6 ⟨g,RR,rfl,hRR,hs6⟩;clear hs5;have hjj:=hRR.jb;rw [← HAL.out] at hjj;obtain ⟨ja,jc,ra3,rc3,ka3,kc3,ea3,ec3,hs7⟩:=rb_out hs6;rw [hjj] at hs7;clear hs6 hjj hRR;go_wp2_with fail;refine (rSameJ _ _ AL w0 _ _ own_it (fun w h=>rdr) (fun w h=>rdr)).mono ?_;rintro en w8 ⟨rfl,hs8⟩;clear hs7;go_wp2_with fail;go_ret;exact ⟨rfl,own_left⟩
theorem statJobs_walk (v0:Value) (c:Cf) (v1:Value) (n1:Nat) (f1:Nat→Nat→Int) (w0:World) (hr:RdCf w0 v0 c) (rg:CfRng c) (h1:RdK kEv w0 v1 n1 f1) (hT:Tab w0) :
  Calls Tryz.prog 3 #[v0,v1] w0 (RetV w0 (.bool true) emp):=by
 obtain ⟨l,_,hu,hev⟩:=evs_of_RdK h1;exact jobsW v0 v1 c rg l hev w0 hr hu hT
end Go.Proofs.YtkeommmigopnkaaGreatDoor
