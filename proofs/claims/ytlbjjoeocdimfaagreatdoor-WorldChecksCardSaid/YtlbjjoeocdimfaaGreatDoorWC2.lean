/-
  Parts of the proof: RefK RefL WorldL.
-/
import Derived.Test.YtlbjjoeocdimfaaGreatDoorKD0
import Derived.Test.YtlbjjoeocdimfaaGreatDoorKD2
import Derived.Test.YtlbjjoeocdimfaaGreatDoorKD4
import Derived.Test.YtlbjjoeocdimfaaGreatDoorKD5
import Derived.Test.YtlbjjoeocdimfaaGreatDoorKD8
import Derived.Test.YtlbjjoeocdimfaaGreatDoorKD9
import Derived.Test.YtlbjjoeocdimfaaGreatDoorKD13
import Derived.Test.YtlbjjoeocdimfaaGreatDoorKD18
import Derived.Test.YtlbjjoeocdimfaaGreatDoorWC0
import Derived.Test.YtlbjjoeocdimfaaGreatDoorWC1
set_option linter.unusedVariables false
set_option linter.unusedSimpArgs false
set_option maxHeartbeats 32000000
set_option maxRecDepth 100000
namespace Go.Proofs.YtlbjjoeocdimfaaGreatDoor
open Go.RowKit Go.Sx Go.Dl Go.Lk Go.Rq Go.Au
theorem zoY (i:Ins) (n:Nat) (hn:n≤256) (isr:Bool) (z:Int) (hz:z1y i n isr=z) (hk:zG i.k) (w0 w:World) (P:HP) (hs:Sat w0 w P) :
  Calls Tryz.prog 128 #[z22 i,.int .i64 n,.bool isr] w (zp w0 (.int .i64 z) P):=by
 have hF:=hid (fun e he wx Q h=>zpk i e he w0 wx Q h);obtain ⟨op,a,b,c,d,k⟩:=i;have hk0:0≤k:=hk.1;have hk1:k<4294967296:=hk.2;have u1:IntKind.u64.wrap k=k:=by rw [IntKind.wrap_u64];omega
 have u2:IntKind.u64.wrap (n:Int)=n:=by rw [IntKind.wrap_u64];omega
 unfold z1y at hz
 by_cases h1:z2K ⟨op,a,b,c,d,k⟩=0
 ·rw [if_neg (Classical.not_not.2 h1)] at hz;have H1:=hid h1;have hop:1≤op∧op≤38:=Classical.byContradiction fun h=>by
   unfold z2K at h1;rw [if_pos (by unfold zlk;simp;omega)] at h1;exact absurd h1 (by decide)
  have hop1:=hop.1;have hop2:=hop.2;clear hop;unfold may at hz;have Hz:=hid hz;clear h1 hz hk
  cases isr
  all_goals
   go_enter Tryz.func128,Tryz.ntmps128
   go_wp2_with fail;refine (hF.out 0 H1.out _ _ z6).mono ?_;rintro en w1 ⟨rfl,hs1⟩;clear hs;go_wp2
   all_goals
    go_ret;refine ⟨?_,z3⟩;rw [← Hz.out]
    first | (simp_all;done) | (simp_all;omega) | (congr 2; (repeat' split)<;>simp_all<;>omega)
 ·rw [if_pos h1] at hz;have e1:(z != 0)=true:=by rw [← hz];simpa using h1
  have Hz:=hid hz;clear h1 hz
  go_enter Tryz.func128,Tryz.ntmps128
  go_wp2_with fail;refine (hF.out z Hz.out _ _ z6).mono ?_;rintro en w1 ⟨rfl,hs1⟩;clear hs;go_wp2_with fail;go_ret;exact ⟨rfl,z3⟩
theorem zol (n lo hi:Int) (z:Bool) (hz:inR n lo hi=z) (w:World):Calls Tryz.prog 57 #[.int .i64 n,.int .i64 lo,.int .i64 hi] w fun e w'=>e=.returned (.bool (!z))∧w=w':=by
 unfold inR at hz;have Hz:=hid hz;clear hz
 go_enter Tryz.func57,Tryz.ntmps57
 go_wp2
 all_goals
  go_ret;exact ⟨zgn (by rw [← Hz.out,Bool.eq_iff_iff];simp;try omega),rfl⟩
theorem zog (e p i a:Int) (w0 w:World) (P:HP) (hs:Sat w0 w P):Calls Tryz.prog 56 #[.int .i64 e,.int .i64 p,.int .i64 i,.int .i64 a] w (zp w0 (ftV ⟨e,p,i,a⟩) P):=by
 go_enter Tryz.func56,Tryz.ntmps56
 go_wp2_with fail;go_returns;exact ⟨rfl,z3⟩
def zpC (w0:World) (P:HP) (Q:Prop) (e:Ending) (w':World):Prop:=∃ z k:Int,e=.returned (.tuple #[.int .i64 z,.int .i64 k])∧Sat w0 w' P∧(z=0↔Q)
def zoz (w0:World) (P:HP) (Q:Prop) (e:Ending) (w':World):Prop:=∃ f:Ft,e=.returned (ftV f)∧Sat w0 w' P∧(f.err=0↔Q)
theorem zoz.no {w0 w':World} {P:HP} {Q:Prop} (f:Ft) (hs:Sat w0 w' P) (h:¬ f.err=0) (hq:¬ Q):zoz w0 P Q (.returned (ftV f)) w':=⟨f,rfl,hs,fun e=>absurd e h,fun e=>absurd e hq⟩
theorem zoZ (v:Value) (l:List Ins) (isr:Bool) (hk:∀ i∈l,zG i.k) (w0:World) (hr:RdR w0 v l) :
  Calls Tryz.prog 58 #[v,.bool isr] w0 (zpC w0 emp (zoi l isr)):=by
 have hs:=Sat.start w0;obtain ⟨a,cap,g,off,rfl,_,hcm,ha,hc⟩:=hr
 by_cases hl:256<l.length
 ·have d1:decide (256<l.length)=true:=decide_eq_true hl;have d2:decide ((256:Int)<(l.length:Int))=true:=by simp;omega
  have hx:=hid (show ¬ zoi l isr from fun h=>by have:=h.1;omega);clear ha hc
  go_enter Tryz.func58,Tryz.ntmps58
  go_wp2_with fail;go_ret2;exact ⟨4,0,rfl,z3,fun h=>absurd h (by decide),fun h=>absurd h hx.out⟩
 ·have d1:decide (256<l.length)=false:=decide_eq_false hl;have d2:decide ((256:Int)<(l.length:Int))=false:=by simp;omega
  have Ha:=hid ha;have Hc:=hid hc;have Hk:=hid hk;clear ha hc hk
  go_enter Tryz.func58,Tryz.ntmps58
  go_wp2_with fail;refine z9 (w0:=w0) ?_;intro ww hsw;clear hs
  go_loopw [6] (fun i wr=>∃ k:Nat,k≤l.length∧i=.int .i64 k∧(∀ j,j<k→z1y (zM l j) l.length isr=0)∧Sat w0 wr any) (fun i _=>l.length-(intOf i).toNat)
  case atStart=>exact ⟨0,Nat.zero_le _,rfl,fun j hj=>absurd hj (by omega),z3⟩
  case round =>
   obtain ⟨k,hk,rfl,hb,hsr⟩:=hrel;clear hsw;have Hb:=hid hb;clear hb
   by_cases hlt:k<l.length
   ·have d3:decide (k<l.length)=true:=decide_eq_true hlt;have i3:(k:Int)<(l.length:Int):=by omega
    obtain rfl:=Ha.out (by intro h;simp [h] at hlt);obtain ⟨i,hi⟩:∃ i,i=zM l k:=⟨_,rfl⟩;have hgd:l.getD k zmV=i:=by rw [hi];rfl
    have hik:zG i.k:=Hk.out i (by rw [hi];exact z3C (by omega) (by omega));have oc:∀ c u,c<6→(za3.enc i)[c]?=some u→w0.cell? ⟨g,off+k*6+c,none⟩=some u:=fun c u hc6 he=>z2i Hc.out hlt hc6 (by show (za3.enc (l.getD k zmV))[c]?=some u;rw [hgd];exact he);haveI o0:Old w0 g (off+k*6) (.int .i64 i.op):=⟨oc 0 _ (by decide) rfl⟩;haveI o1:Old w0 g (off+k*6+1) (.int .i64 i.a):=⟨oc 1 _ (by decide) rfl⟩;haveI o2:Old w0 g (off+k*6+2) (.int .i64 i.b):=⟨oc 2 _ (by decide) rfl⟩;haveI o3:Old w0 g (off+k*6+3) (.int .i64 i.c):=⟨oc 3 _ (by decide) rfl⟩;haveI o4:Old w0 g (off+k*6+4) (.int .i64 i.d):=⟨oc 4 _ (by decide) rfl⟩;haveI o5:Old w0 g (off+k*6+5) (.int .u32 i.k):=⟨oc 5 _ (by decide) rfl⟩;obtain ⟨z,hz⟩:∃ z,z=z1y i l.length isr:=⟨_,rfl⟩;have hI:=hid (fun (w:World) (P:HP) (hs:Sat w0 w P)=>zoY i l.length (by omega) isr z hz.symm hik w0 w P hs);rw [hi] at hz;have Hz:=hid hz;clear oc hgd hi hik hz
    by_cases hz0:z=0
    ·subst hz0;have hb2:=hid (show ∀ j,j<k+1→z1y (zM l j) l.length isr=0 from fun j hj=>by
      rcases Nat.lt_or_ge j k with h | h
      ·exact Hb.out j h
      ·obtain rfl:j=k:=by omega
       exact Hz.out.symm)
     go_wp2_with fail;refine (hI.out _ any z3).mono ?_;rintro en w1 ⟨rfl,hs1⟩;go_wp2_with fail;go_roundw
     case rel=>exact ⟨k+1,by omega,by go_num,hb2.out,z3⟩
     case measure=>simp [intOf];omega
    ·have z1:(z != 0)=true:=by simp [hz0]
     have hx:=hid (show ¬ zoi l isr from fun h=>hz0 (Hz.out.trans (h.2 k hlt)));have Hz0:=hid hz0;clear hz0;go_wp2_with fail;refine (hI.out _ any z3).mono ?_;rintro en w1 ⟨rfl,hs1⟩;go_wp2_with fail;go_ret2;exact ⟨_,_,rfl,z3,fun h=>absurd h Hz0.out,fun h=>absurd h hx.out⟩
   ·have hkl:k=l.length:=by omega
    subst hkl;have d3:decide (l.length<l.length)=false:=by simp
    have hx:=hid (show zoi l isr from ⟨by omega,Hb.out⟩);clear hlt;go_wp2_with fail
    all_goals
     go_ret2;exact ⟨0,0,rfl,z3,fun _=>hx.out,fun _=>rfl⟩
theorem zp0 (v:Value) (l:List Int) (p lo hi:Int) (w0:World) (hr:RdN .i64 w0 v l) :
  Calls Tryz.prog 59 #[v,.int .i64 p,.int .i64 lo,.int .i64 hi] w0 (zoz w0 emp (zok l lo hi)):=by
 have hs:=Sat.start w0;obtain ⟨a,cap,gb,off,rfl,_,_,ha,hc⟩:=hr
 by_cases hl:32<l.length
 ·have d1:decide (32<l.length)=true:=decide_eq_true hl;have d2:decide ((32:Int)<(l.length:Int))=true:=by simp;omega
  have hx:=hid (show ¬ zok l lo hi from fun h=>by have:=h.1;omega);clear ha hc
  go_enter Tryz.func59,Tryz.ntmps59
  go_wp2_with fail;refine (zog _ _ _ _ w0 _ _ z6).mono ?_;rintro en w1 ⟨rfl,hs1⟩;unfold ftV;go_wp2_with fail;go_returns;exact zoz.no ⟨4,p,0,0⟩ z3 (show ¬ (4:Int)=0 by decide) hx.out
 ·have d1:decide (32<l.length)=false:=decide_eq_false hl;have d2:decide ((32:Int)<(l.length:Int))=false:=by simp;omega
  have hl9:l.length≤32:=by omega
  have Ha:=hid ha;have Hc:=hid hc;clear ha hc
  go_enter Tryz.func59,Tryz.ntmps59
  go_wp2_with fail;refine z9 (w0:=w0) ?_;intro ww hsw;clear hs hl
  go_loopw [9] (fun i wr=>∃ k:Nat,k≤l.length∧i=.int .i64 k∧(∀ j,j<k→inR (lg l j) lo hi=true)∧Sat w0 wr (pts w0.heap.size 0 [.int .i64 0,.int .i64 0,.int .i64 0,.int .i64 0]*any)) (fun i _=>l.length-(intOf i).toNat)
  case atStart=>exact ⟨0,Nat.zero_le _,rfl,fun j hj=>absurd hj (by omega),z3⟩
  case round =>
   obtain ⟨k,hk,rfl,hb,hsr⟩:=hrel;clear hsw;have Hb:=hid hb;clear hb
   by_cases hlt:k<l.length
   ·have d3:decide (k<l.length)=true:=decide_eq_true hlt;have i3:(k:Int)<(l.length:Int):=by omega
    obtain rfl:=Ha.out (by intro h;simp [h] at hlt);haveI o1:Old w0 gb (off+k) (.int .i64 (lg l k)):=⟨Hc.out k hlt⟩
    cases g:inR (lg l k) lo hi
    ·have hx:=hid (show ¬ zok l lo hi from fun h=>by have:=h.2 k hlt;rw [g] at this;cases this);have hO:=hid (fun w=>zol (lg l k) lo hi false g w);clear g;go_wp2_with fail;refine (hO.out _).mono ?_;rintro en w1 ⟨rfl,rfl⟩;go_wp2_with fail;refine (zog _ _ _ _ w0 _ _ z6).mono ?_;rintro en w1 ⟨rfl,hs1⟩;unfold ftV;go_wp2_with fail;go_returns;exact zoz.no ⟨5,p,k,1⟩ z3 (show ¬ (5:Int)=0 by decide) hx.out
    ·have hb2:=hid (show ∀ j,j<k+1→inR (lg l j) lo hi=true from fun j hj=>by
      rcases Nat.lt_or_ge j k with h | h
      ·exact Hb.out j h
      ·obtain rfl:j=k:=by omega
       exact g)
     have hO:=hid (fun w=>zol (lg l k) lo hi true g w);clear g;go_wp2_with fail;refine (hO.out _).mono ?_;rintro en w1 ⟨rfl,rfl⟩;go_wp2_with fail;go_roundw
     case rel=>exact ⟨k+1,by omega,by go_num,hb2.out,z3⟩
     case measure=>simp [intOf];omega
   ·have hkl:k=l.length:=by omega
    subst hkl;have d3:decide (l.length<l.length)=false:=by simp
    have hx:=hid (show zok l lo hi from ⟨hl9,Hb.out⟩);clear hlt;go_wp2_with fail
    all_goals
     go_returns;exact ⟨ft0,rfl,z3,fun _=>hx.out,fun _=>rfl⟩
theorem zpj (v:Value) (c:Cf) (rg:z6B c) (w0:World) (hr:z8I w0 v c) :
  Calls Tryz.prog 15 #[v] w0 (zoz w0 emp (zoF c)):=by
 have hs:=Sat.start w0;obtain ⟨tv,lv,sv,qv,mv,rfl,⟨T,hT,hTn,hTi⟩,⟨L,hL,hLn,hLi⟩,hS,hQ,hM⟩:=hr.out;have hRs:=hid (fun (w:World) (h:Sat w0 w any)=>zp0 sv c.sems 4 0 255 w (hS.later h));have hRq:=hid (fun (w:World) (h:Sat w0 w any)=>zp0 qv c.queues 5 1 64 w (hQ.later h));have hRt:=hid (fun (w:World) (h:Sat w0 w any)=>zp0 mv c.timers 6 0 (c.sems.length-1) w (hM.later h));clear hr;have hsl:=hS.len;obtain ⟨sa,scap,_,_,rfl,_⟩:=hS;obtain ⟨qa,qcap,_,_,rfl,_⟩:=hQ;obtain ⟨ma,mcap,_,_,rfl,_⟩:=hM;obtain ⟨ta,tcap,tg,tto,rfl,_,_,hta,htc⟩:=hT;obtain ⟨la,lcap,lg',lo,rfl,_,_,hla,hlc⟩:=hL;rw [hTn,hLn];have u1:IntKind.i64.wrap ((c.sems.length:Int)-1)=(c.sems.length:Int)-1:=by rw [IntKind.wrap_i64];unfold maxLen at hsl;omega
 have Hta:=hid hta;have Htc:=hid htc;have Hla:=hid hla;have Hlc:=hid hlc;have HTn:=hid hTn;have HLn:=hid hLn;have HTi:=hid hTi;have HLi:=hid hLi;have Rg:=hid rg;clear hta htc hla hlc hTn hLn hTi hLi rg hsl
 by_cases hl:64<c.ts.length
 ·have d1:decide (64<c.ts.length)=true:=decide_eq_true hl;have d2:decide ((64:Int)<(c.ts.length:Int))=true:=by simp;omega
  have hb:=hid (show ¬ zoF c from fun h=>by have:=h.tn;omega)
  go_enter Tryz.func15,Tryz.ntmps15
  go_wp2_with fail;refine (zog _ _ _ _ w0 _ _ z6).mono ?_;rintro en w1 ⟨rfl,hs1⟩;unfold ftV;go_wp2_with fail;go_returns;exact zoz.no ⟨_,_,_,_⟩ z3 (by simp) hb.out
 have d1:decide (64<c.ts.length)=false:=decide_eq_false hl;have d2:decide ((64:Int)<(c.ts.length:Int))=false:=by simp;omega
 have htl:c.ts.length≤64:=by omega
 clear hl
 go_enter Tryz.func15,Tryz.ntmps15
 go_wp2_with fail;refine z9 (w0:=w0) ?_;intro ww hsw;clear hs
 go_loopw [3] (fun i wr=>∃ k:Nat,k≤c.ts.length∧i=.int .i64 k∧(∀ j,j<k→zon (tcg c j))∧Sat w0 wr (pts w0.heap.size 0 [.slice ta c.ts.length tcap,.slice la c.ls.length lcap,.int .i64 c.mutexes,.slice sa c.sems.length scap,.slice qa c.queues.length qcap,.slice ma c.timers.length mcap,.int .i64 c.table,.int .u32 c.mask,.int .u32 c.filter,.int .i64 c.charge,.int .u64 c.cycle,.int .u64 c.count]*(pts (w0.heap.size+1) 0 [.int .i64 0,.int .i64 0,.int .i64 0,.int .i64 0]*any))) (fun i _=>c.ts.length-(intOf i).toNat)
 case atStart=>exact ⟨0,Nat.zero_le _,rfl,fun j hj=>absurd hj (by omega),z3⟩
 case round =>
  obtain ⟨k,hk,rfl,hb,hsr⟩:=hrel;clear hsw;have Hb:=hid hb;clear hb
  by_cases hlt:k<c.ts.length
  ·have d3:decide (k<c.ts.length)=true:=decide_eq_true hlt;have i3:(k:Int)<(c.ts.length:Int):=by omega
   have hTl:=HTn.out;obtain rfl:=Hta.out (by intro h;simp [h] at hTl;omega);have hit:=HTi.out k hlt;obtain ⟨u,hu⟩:∃ u,u=T.getD k tv0:=⟨_,rfl⟩;have oc:∀ c' y,c'<6→(z8Q.enc u)[c']?=some y→w0.cell? ⟨tg,tto+k*6+c',none⟩=some y:=fun c' y hc6 he=>z2i Htc.out (by omega) hc6 (by show (z8Q.enc (T.getD k tv0))[c']?=some y;rw [← hu];exact he);rw [← hu] at hit;have hit:IsT w0 u (tcg c k):=hit;haveI o0:Old w0 tg (tto+k*6) (.int .i64 (tcg c k).lev):=⟨by rw [← hit.lev];exact oc 0 _ (by decide) rfl⟩;haveI o1:Old w0 tg (tto+k*6+1) (.int .i64 (tcg c k).off):=⟨by rw [← hit.off];exact oc 1 _ (by decide) rfl⟩;haveI o2:Old w0 tg (tto+k*6+2) (.int .i64 (tcg c k).per):=⟨by rw [← hit.per];exact oc 2 _ (by decide) rfl⟩;haveI o3:Old w0 tg (tto+k*6+3) (.int .i64 (tcg c k).dl):=⟨by rw [← hit.dl];exact oc 3 _ (by decide) rfl⟩;haveI o4:Old w0 tg (tto+k*6+4) (.int .i64 (tcg c k).mem):=⟨by rw [← hit.mem];exact oc 4 _ (by decide) rfl⟩;haveI o5:Old w0 tg (tto+k*6+5) (.slice u.ca u.cn u.cc):=⟨oc 5 _ (by decide) rfl⟩;have hC:=hid (fun (w:World) (h:Sat w0 w any)=>zoZ u.cv (tcg c k).code false (Rg.out.tk k hlt) w (hit.code.later h));clear oc hu hTl hit;go_wp2_with fail;refine (zol _ _ _ _ rfl _).mono ?_;rintro en w1 ⟨rfl,rfl⟩
   cases g:inR (tcg c k).lev 0 31
   rotate_left
   have G1:=hid g;clear g;go_wp2_with fail;refine (zol _ _ _ _ rfl _).mono ?_;rintro en w1 ⟨rfl,rfl⟩
   cases g:inR (tcg c k).off 1 1073741824
   rotate_left
   have G2:=hid g;clear g;go_wp2_with fail;refine (zol _ _ _ _ rfl _).mono ?_;rintro en w1 ⟨rfl,rfl⟩
   cases g:inR (tcg c k).per 0 1073741824
   rotate_left
   have G3:=hid g;clear g;go_wp2_with fail;refine (zol _ _ _ _ rfl _).mono ?_;rintro en w1 ⟨rfl,rfl⟩
   cases g:inR (tcg c k).dl 0 1073741824
   rotate_left
   have G4:=hid g;clear g;go_wp2_with fail;refine (zol _ _ _ _ rfl _).mono ?_;rintro en w1 ⟨rfl,rfl⟩
   cases g:inR (tcg c k).mem 0 256
   rotate_left
   have G5:=hid g;clear g;go_wp2_with fail;refine (hC.out _ z3).mono ?_;rintro en w1 ⟨z,kk,rfl,hs1,hz⟩;have hs2:=Sat.past (w0:=w0) z6 hs1;clear hs1 hsr
   by_cases hz0:z=0
   case neg =>
    have z1:(z != 0)=true:=by simp [hz0]
    have hb:=hid (show ¬ zoF c from fun h=>hz0 (hz.2 (h.tk k hlt).2.2.2.2.2));have Hz0:=hid hz0;clear hz hz0;go_wp2_with fail;refine (zog _ _ _ _ w0 _ _ z6).mono ?_;rintro en w1 ⟨rfl,hs1⟩;unfold ftV;go_wp2_with fail;go_returns;exact zoz.no ⟨_,_,_,_⟩ z3 Hz0.out hb.out
   have hb2:=hid (show ∀ j,j<k+1→zon (tcg c j) from fun j hj=>by
    rcases Nat.lt_or_ge j k with h | h
    ·exact Hb.out j h
    ·obtain rfl:j=k:=by omega
     exact ⟨G1.out,G2.out,G3.out,G4.out,G5.out,hz.1 hz0⟩)
   subst hz0;clear hz;go_wp2_with fail;go_roundw
   case rel=>exact ⟨k+1,by omega,by go_num,hb2.out,z3⟩
   case measure=>simp [intOf];omega
   all_goals
    have hb:=hid (show ¬ zoF c from fun h=>by first | exact absurd (g.symm.trans (h.tk k hlt).1) (by decide) | exact absurd (g.symm.trans (h.tk k hlt).2.1) (by decide) | exact absurd (g.symm.trans (h.tk k hlt).2.2.1) (by decide) | exact absurd (g.symm.trans (h.tk k hlt).2.2.2.1) (by decide) | exact absurd (g.symm.trans (h.tk k hlt).2.2.2.2.1) (by decide));clear g;go_wp2_with fail;refine (zog _ _ _ _ w0 _ _ z6).mono ?_;rintro en w1 ⟨rfl,hs1⟩;unfold ftV;go_wp2_with fail;go_returns;exact zoz.no ⟨_,_,_,_⟩ z3 (by simp) hb.out
  have hkl:k=c.ts.length:=by omega
  subst hkl;have d3:decide (c.ts.length<c.ts.length)=false:=by simp
  clear hlt hk
  by_cases hl2:16<c.ls.length
  ·have d4:decide (16<c.ls.length)=true:=decide_eq_true hl2;have d5:decide ((16:Int)<(c.ls.length:Int))=true:=by simp;omega
   have hb:=hid (show ¬ zoF c from fun h=>by have:=h.ln;omega);go_wp2_with fail;refine (zog _ _ _ _ w0 _ _ z6).mono ?_;rintro en w1 ⟨rfl,hs1⟩;unfold ftV;go_wp2_with fail;go_returns;exact zoz.no ⟨_,_,_,_⟩ z3 (by simp) hb.out
  have d4:decide (16<c.ls.length)=false:=decide_eq_false hl2;have d5:decide ((16:Int)<(c.ls.length:Int))=false:=by simp;omega
  have hll:c.ls.length≤16:=by omega
  clear hl2;go_wp2_with fail;refine z9 (w0:=w0) ?_;intro w3 hs3;clear hsr
  go_loopw [7] (fun i wr=>∃ k:Nat,k≤c.ls.length∧i=.int .i64 k∧(∀ j,j<k→zom (lcg c j))∧Sat w0 wr (pts w0.heap.size 0 [.slice ta c.ts.length tcap,.slice la c.ls.length lcap,.int .i64 c.mutexes,.slice sa c.sems.length scap,.slice qa c.queues.length qcap,.slice ma c.timers.length mcap,.int .i64 c.table,.int .u32 c.mask,.int .u32 c.filter,.int .i64 c.charge,.int .u64 c.cycle,.int .u64 c.count]*(pts (w0.heap.size+1) 0 [.int .i64 0,.int .i64 0,.int .i64 0,.int .i64 0]*any))) (fun i _=>c.ls.length-(intOf i).toNat)
  case atStart=>exact ⟨0,Nat.zero_le _,rfl,fun j hj=>absurd hj (by omega),z3⟩
  case round =>
   obtain ⟨k,hk,rfl,hb,hsr⟩:=hrel;clear hs3;have Hb2:=hid hb;clear hb
   by_cases hlt:k<c.ls.length
   ·have d6:decide (k<c.ls.length)=true:=decide_eq_true hlt;have i3:(k:Int)<(c.ls.length:Int):=by omega
    have hLl:=HLn.out;obtain rfl:=Hla.out (by intro h;simp [h] at hLl;omega);have hit:=HLi.out k hlt;obtain ⟨u,hu⟩:∃ u,u=L.getD k lv0:=⟨_,rfl⟩;have oc:∀ c' y,c'<2→(z8P.enc u)[c']?=some y→w0.cell? ⟨lg',lo+k*2+c',none⟩=some y:=fun c' y hc6 he=>z2i Hlc.out (by omega) hc6 (by show (z8P.enc (L.getD k lv0))[c']?=some y;rw [← hu];exact he);rw [← hu] at hit;have hit:IsL w0 u (lcg c k):=hit;haveI o0:Old w0 lg' (lo+k*2) (.int .i64 (lcg c k).mem):=⟨by rw [← hit.mem];exact oc 0 _ (by decide) rfl⟩;haveI o1:Old w0 lg' (lo+k*2+1) (.slice u.ca u.cn u.cc):=⟨oc 1 _ (by decide) rfl⟩;have hC:=hid (fun (w:World) (h:Sat w0 w any)=>zoZ u.cv (lcg c k).code true (Rg.out.lk k hlt) w (hit.code.later h));clear oc hu hLl hit;go_wp2_with fail;refine (zol _ _ _ _ rfl _).mono ?_;rintro en w1 ⟨rfl,rfl⟩
    cases g:inR (lcg c k).mem 0 256
    rotate_left
    have G1:=hid g;clear g;go_wp2_with fail;refine (hC.out _ z3).mono ?_;rintro en w1 ⟨z,kk,rfl,hs1,hz⟩;have hs2:=Sat.past (w0:=w0) z6 hs1;clear hs1 hsr
    by_cases hz0:z=0
    case neg =>
     have z1:(z != 0)=true:=by simp [hz0]
     have hb:=hid (show ¬ zoF c from fun h=>hz0 (hz.2 (h.lk k hlt).2));have Hz0:=hid hz0;clear hz hz0;go_wp2_with fail;refine (zog _ _ _ _ w0 _ _ z6).mono ?_;rintro en w1 ⟨rfl,hs1⟩;unfold ftV;go_wp2_with fail;go_returns;exact zoz.no ⟨_,_,_,_⟩ z3 Hz0.out hb.out
    have hb2:=hid (show ∀ j,j<k+1→zom (lcg c j) from fun j hj=>by
     rcases Nat.lt_or_ge j k with h | h
     ·exact Hb2.out j h
     ·obtain rfl:j=k:=by omega
      exact ⟨G1.out,hz.1 hz0⟩)
    subst hz0;clear hz;go_wp2_with fail;go_roundw
    case rel=>exact ⟨k+1,by omega,by go_num,hb2.out,z3⟩
    case measure=>simp [intOf];omega
    all_goals
     have hb:=hid (show ¬ zoF c from fun h=>by first | exact absurd (g.symm.trans (h.lk k hlt).1) (by decide));clear g;go_wp2_with fail;refine (zog _ _ _ _ w0 _ _ z6).mono ?_;rintro en w1 ⟨rfl,hs1⟩;unfold ftV;go_wp2_with fail;go_returns;exact zoz.no ⟨_,_,_,_⟩ z3 (by simp) hb.out
   have hkl:k=c.ls.length:=by omega
   subst hkl;have d6:decide (c.ls.length<c.ls.length)=false:=by simp
   clear hlt hk;go_wp2_with fail;refine (zol _ _ _ _ rfl _).mono ?_;rintro en w1 ⟨rfl,rfl⟩
   cases g:inR c.mutexes 0 32
   case false =>
    have hb:=hid (show ¬ zoF c from fun h=>absurd (g.symm.trans h.mu) (by decide));clear g;go_wp2_with fail;refine (zog _ _ _ _ w0 _ _ z6).mono ?_;rintro en w1 ⟨rfl,hs1⟩;unfold ftV;go_wp2_with fail;go_returns;exact zoz.no ⟨_,_,_,_⟩ z3 (by simp) hb.out
   have G1:=hid g;clear g;go_wp2_with fail;refine (hRs.out _ z3).mono ?_;rintro en w1 ⟨f,rfl,hs1,hf⟩;have hs2:=Sat.past (w0:=w0) z6 hs1;clear hs1 hsr;have hsr:=hs2;clear hs2;unfold ftV
   by_cases hz0:f.err=0
   case neg =>
    have z1:(f.err != 0)=true:=by simp [hz0]
    have hb:=hid (show ¬ zoF c from fun h=>hz0 (hf.2 h.se));have Hz0:=hid hz0;clear hf hz0;go_wp2_with fail;go_returns;exact zoz.no ⟨_,_,_,_⟩ z3 Hz0.out hb.out
   have G2:=hid (hf.1 hz0);have z1:(f.err != 0)=false:=by simp [hz0]
   clear hf hz0;go_wp2_with fail;refine (hRq.out _ z3).mono ?_;rintro en w1 ⟨f,rfl,hs1,hf⟩;have hs2:=Sat.past (w0:=w0) z6 hs1;clear hs1 hsr;have hsr:=hs2;clear hs2;unfold ftV
   by_cases hz0:f.err=0
   case neg =>
    have z1:(f.err != 0)=true:=by simp [hz0]
    have hb:=hid (show ¬ zoF c from fun h=>hz0 (hf.2 h.qu));have Hz0:=hid hz0;clear hf hz0;go_wp2_with fail;go_returns;exact zoz.no ⟨_,_,_,_⟩ z3 Hz0.out hb.out
   have G3:=hid (hf.1 hz0);have z1:(f.err != 0)=false:=by simp [hz0]
   clear hf hz0;go_wp2_with fail;refine (hRt.out _ z3).mono ?_;rintro en w1 ⟨f,rfl,hs1,hf⟩;have hs2:=Sat.past (w0:=w0) z6 hs1;clear hs1 hsr;have hsr:=hs2;clear hs2;unfold ftV
   by_cases hz0:f.err=0
   case neg =>
    have z1:(f.err != 0)=true:=by simp [hz0]
    have hb:=hid (show ¬ zoF c from fun h=>hz0 (hf.2 h.tm));have Hz0:=hid hz0;clear hf hz0;go_wp2_with fail;go_returns;exact zoz.no ⟨_,_,_,_⟩ z3 Hz0.out hb.out
   have G4:=hid (hf.1 hz0);have z1:(f.err != 0)=false:=by simp [hz0]
   clear hf hz0;go_wp2_with fail;refine (zol _ _ _ _ rfl _).mono ?_;rintro en w1 ⟨rfl,rfl⟩
   cases g:inR c.table 0 64
   case false =>
    have hb:=hid (show ¬ zoF c from fun h=>absurd (g.symm.trans h.tb) (by decide));clear g;go_wp2_with fail;refine (zog _ _ _ _ w0 _ _ z6).mono ?_;rintro en w1 ⟨rfl,hs1⟩;unfold ftV;go_wp2_with fail;go_returns;exact zoz.no ⟨_,_,_,_⟩ z3 (by simp) hb.out
   have G5:=hid g;clear g;go_wp2_with fail;refine z9 (w0:=w0) ?_;intro w5 hs5;clear hsr
   go_loopw [13,14] (fun m i wr=>∃ k:Nat,k≤c.ls.length∧m=.int .u32 ((c.mask / 2^k:Nat):Int)∧i=.int .i64 k∧Sat w0 wr (pts w0.heap.size 0 [.slice ta c.ts.length tcap,.slice la c.ls.length lcap,.int .i64 c.mutexes,.slice sa c.sems.length scap,.slice qa c.queues.length qcap,.slice ma c.timers.length mcap,.int .i64 c.table,.int .u32 c.mask,.int .u32 c.filter,.int .i64 c.charge,.int .u64 c.cycle,.int .u64 c.count]*(pts (w0.heap.size+1) 0 [.int .i64 0,.int .i64 0,.int .i64 0,.int .i64 0]*any))) (fun _ i _=>c.ls.length-(intOf i).toNat)
   case atStart=>exact ⟨0,Nat.zero_le _,by simp,rfl,z3⟩
   case round =>
    obtain ⟨k,hk,rfl,rfl,hsr⟩:=hrel;clear hs5
    by_cases hlt:k<c.ls.length
    ·have d7:decide (k<c.ls.length)=true:=decide_eq_true hlt;have i3:(k:Int)<(c.ls.length:Int):=by omega
     have hm:=Rg.out.mask;have hle:c.mask / 2^k≤c.mask:=Nat.div_le_self _ _;obtain ⟨q,hq⟩:∃ q,q=c.mask / 2^k:=⟨_,rfl⟩;have hq2:c.mask / 2^(k+1)=q / 2:=by rw [Nat.pow_succ,← Nat.div_div_eq_div_mul,hq]
     have Hq:=hid hq2;rw [← hq] at hle ⊢;have hq3:q<4294967296:=by omega
     clear hq hq2 hle hm;go_wp2_with fail;go_roundw
     case rel=>exact ⟨k+1,by omega,by rw [Hq.out];go_num,by go_num,z3⟩
     case measure=>simp [intOf];omega
    ·have hkl:k=c.ls.length:=by omega
     subst hkl;have d7:decide (c.ls.length<c.ls.length)=false:=by simp
     have hmo:z5T c=decide (c.mask / 2^c.ls.length=0):=by
      unfold z5T;rw [Nat.min_eq_left hll,Nat.shiftRight_eq_div_pow]
     generalize c.mask / 2^c.ls.length=q at *;clear hlt hk
     by_cases hq:q=0
     case neg =>
      have q1:((q:Int) != 0)=true:=by simp;omega
      have hb:=hid (show ¬ zoF c from fun h=>hq (of_decide_eq_true (hmo.symm.trans h.ms)));clear hmo hq;go_wp2_with fail;refine (zog _ _ _ _ w0 _ _ z6).mono ?_;rintro en w1 ⟨rfl,hs1⟩;unfold ftV;go_wp2_with fail;go_returns;exact zoz.no ⟨_,_,_,_⟩ z3 (by simp) hb.out
     subst hq;have G6:=hid (show z5T c=true from hmo);clear hmo;go_wp2_with fail;refine (zol _ _ _ _ rfl _).mono ?_;rintro en w1 ⟨rfl,rfl⟩
     cases g:inR c.charge 0 64
     case false =>
      have hb:=hid (show ¬ zoF c from fun h=>absurd (g.symm.trans h.ch) (by decide));clear g;go_wp2_with fail;refine (zog _ _ _ _ w0 _ _ z6).mono ?_;rintro en w1 ⟨rfl,hs1⟩;unfold ftV;go_wp2_with fail;go_returns;exact zoz.no ⟨_,_,_,_⟩ z3 (by simp) hb.out
     have G7:=hid g;clear g;have hx:=hid (show zoF c from ⟨htl,Hb.out,hll,Hb2.out,G1.out,G2.out,G3.out,G4.out,G5.out,G6.out,G7.out⟩);go_wp2_with fail;go_returns;exact ⟨ft0,rfl,z3,fun _=>hx.out,fun _=>rfl⟩
@[go_sem] theorem zsC (a b c d:Int) (w:World):Sem.run Tryz.prog (Instr.field 35 (.agg #[.int .i64 a,.int .i64 b,.int .i64 c,.int .i64 d]) 0) w=.ok (.int .i64 a) w:=by kernel_rfl
theorem zsr (v0:Value) (c0:Cf) (v1:Value) (s0:Sc) (w0:World) (h0:z8I w0 v0 c0) (k0:z6B c0) (h1:zqQ w0 v1 s0) (k1:∀ x∈s0.tape,zG x) (hT:Tab w0) :
  Calls Tryz.prog 8 #[v0,v1] w0 (zp w0 (.bool true) emp):=by
 have hs:=Sat.start w0;have hAw:=hid (fun (w:World) (h:Sat w0 w any)=>zr9 w (hT.later h));have hGr:=hid (fun (w:World) (h:Sat w0 w any)=>z9a v0 c0 0 w (h0.later h));have hR:=hid (fun (w:World) (h:Sat w0 w any)=>zrS v1 s0 w (h1.later h));have hC:=hid (fun (w:World) (h:Sat w0 w any)=>zr7 v1 s0 w (h1.later h));have hF:=hid (fun (w:World) (h:Sat w0 w any)=>zpj v0 c0 k0 w (h0.later h));have hN:=hid (fun (he:wdE c0 s0≠0) (w:World) (h:Sat w0 w any)=>zrn v0 v1 c0 s0 k0 w (h0.later h) (h1.later h) he);have hY:=hid (fun (hok:(z5g c0).err=0) (he:scE s0=0) (w:World) (h:Sat w0 w any)=>zsd v0 v1 c0 s0 k0 w (h0.later h) (h1.later h) hok he);obtain ⟨ta,la,sa,qa,ma,tc,lc,sc,qc,mc,rfl,_,_,_,_,_⟩:=h0.form;obtain ⟨aa,ac,ta2,tc2,rfl,_,_⟩:=h1;clear h0 hT k1;have k3:∃ b3:Bool,decide (70000<s0.ar.length)=b3∧decide ((70000:Int)<(s0.ar.length:Int))=b3:=⟨_,rfl,by simp;omega⟩;have k4:∃ b4:Bool,decide (70000<s0.tape.length)=b4∧decide ((70000:Int)<(s0.tape.length:Int))=b4:=⟨_,rfl,by simp;omega⟩;obtain ⟨b3,d3,e3⟩:=k3;obtain ⟨b4,d4,e4⟩:=k4
 by_cases hbig:b3=true∨b4=true
 ·cases b3<;>cases b4
  case false.false=>exact absurd hbig (by simp)
  all_goals
   clear hbig
   go_enter Tryz.func8,Tryz.ntmps8
   go_wp2_with fail;refine (hAw.out _ z3).mono ?_;rintro en w1 ⟨rfl,hp⟩;have hs1:=Sat.past (w0:=w0) z6 hp;clear hp hs;go_wp2_with fail;refine (hGr.out _ z3).mono ?_;rintro en w2 ⟨z,rfl,hp,hz⟩;have hs2:=Sat.past (w0:=w0) z6 hp;clear hp hs1 hz
   cases z
   all_goals
    go_wp2_with fail;refine (hAw.out _ z3).mono ?_;rintro en w3 ⟨rfl,hp⟩;have hs3:=Sat.past (w0:=w0) z6 hp;clear hp hs2;go_wp2_with fail;go_ret;exact ⟨rfl,z3⟩
 obtain rfl:b3=false:=by cases b3;rfl;exact absurd (.inl rfl) hbig
 obtain rfl:b4=false:=by cases b4;rfl;exact absurd (.inr rfl) hbig
 clear hbig
 go_enter Tryz.func8,Tryz.ntmps8
 go_wp2_with fail;refine (hAw.out _ z3).mono ?_;rintro en w1 ⟨rfl,hp⟩;have hs1:=Sat.past (w0:=w0) z6 hp;clear hp hs;go_wp2_with fail;refine (hGr.out _ z3).mono ?_;rintro en w2 ⟨z,rfl,hp,hz⟩;have hs2:=Sat.past (w0:=w0) z6 hp;clear hp hs1 hz
 cases z
 case true =>
  go_wp2_with fail;refine (hAw.out _ z3).mono ?_;rintro en w3 ⟨rfl,hp⟩;have hs3:=Sat.past (w0:=w0) z6 hp;clear hp hs2;go_wp2_with fail;go_ret;exact ⟨rfl,z3⟩
 case false =>
  have hfi:=zp6 c0
  by_cases hok:(z5g c0).err=0
  ·-- a right system
   by_cases he:scE s0=0
   ·have hX:=hid (hY.out hok he);rw [he] at hR hC;have hst:=hid (show 0≤s0.steps∧s0.steps≤65536 from ⟨(zqE he).1,(zqE he).2.1⟩);clear hN hY he;go_wp2_with fail;refine (hR.out _ z3).mono ?_;rintro en w3 ⟨rfl,hp⟩;have hs3:=Sat.past (w0:=w0) z6 hp;clear hp hs2;go_wp2_with fail;refine (hC.out _ z3).mono ?_;rintro en w4 ⟨rfl,hp⟩;have hs4:=Sat.past (w0:=w0) z6 hp;clear hp hs3;go_wp2_with fail;refine (hF.out _ z3).mono ?_;rintro en w5 ⟨f,rfl,hp,hz⟩;have hs5:=Sat.past (w0:=w0) z6 hp;clear hp hs4;obtain ⟨fe,fp,fi,fa⟩:=f;obtain rfl:fe=0:=hz.2 (hfi.1 hok);clear hz hfi hok;unfold ftV;go_wp2_with fail;refine (hX.out _ z3).mono ?_;rintro en w6 ⟨v6,rfl,hp⟩;obtain ⟨g,b,y,ta3,tc3,rfl,hp2⟩:=zrJ (hp.perm (zz _).symm);have hs6:=Sat.over (w0:=w0) z6 hp2;clear hs5 hp hp2;have hDn:=hid (fun (w:World) (G:HP) (hs:Sat w0 w (wdP g b y c0 ta3 tc3 (zqA c0 s0)*G))=>(show Calls Tryz.prog 43 #[.pointer (some ⟨g,0,none⟩)] w (zp w0 (.int .i64 0) (wdP g b y c0 ta3 tc3 (zqA c0 s0)*G)) from zsh g b y c0 ta3 tc3 (zqA c0 s0) w0 w G hs));have hLf:=hid (fun (w:World) (G:HP) (hs:Sat w0 w (wdP g b y c0 ta3 tc3 (zqA c0 s0)*G))=>(show Calls Tryz.prog 39 #[.pointer (some ⟨g,0,none⟩)] w (zp w0 (.int .i64 s0.steps) (wdP g b y c0 ta3 tc3 (zqA c0 s0)*G)) by
     have:=zsi g b y c0 ta3 tc3 (zqA c0 s0) w0 w G hs ⟨hst.out.1,hst.out.2⟩
     rwa [show (zqA c0 s0).steps-((zqA c0 s0).done:Int)=s0.steps from Int.sub_zero _] at this))
    have q4:(s0.steps==s0.steps)=true:=by simp
    go_wp2_with fail;refine zj (fun w'=>Sat w0 w' (pts (w0.heap.size+1) 0 [.slice aa s0.ar.length ac,.slice ta2 s0.tape.length tc2,.int .i64 s0.steps]*any)) [(0,true),(1,true),(2,true),(3,true),(4,true),(5,true),(6,true),(7,true),(8,true),(9,true),(10,true),(11,true),(12,true),(13,true),(14,true),(15,false),(16,true),(17,true),(18,true),(20,true),(21,true),(19,false),(22,true),(23,true),(24,true),(25,true),(26,true)] (by kernel_rfl) (by kernel_rfl) (fun _ _ _ _ h=>h) zq ?_
    iterate 15 ((first | (refine zpI rfl (by rfl) ?_;apply Exists.intro;refine ⟨fun w hSw=>?_,?_⟩;focus ((try dsimp only at hSw);go_simp;try with_reducible rfl)) | refine zpH rfl (by rfl) ?_);simp only [Act.put,Go.zqA,Go.zqP,Go.zqQ])
    refine z29 rfl (by rfl) (fun K hK=>?_);go_wp2_with fail;refine (hDn.out _ _ Go.Sx.own).mono ?_;rintro en w7 ⟨rfl,hs7⟩;clear hs6;go_wp2_with fail;refine ⟨zq,?_⟩
    iterate 5 ((first | (refine zpI rfl (by rfl) ?_;apply Exists.intro;refine ⟨fun w hSw=>?_,?_⟩;focus ((try dsimp only at hSw);go_simp;try with_reducible rfl)) | refine zpH rfl (by rfl) ?_);simp only [Act.put,Go.zqA,Go.zqP,Go.zqQ])
    refine z29 rfl (by rfl) (fun K hK=>?_);go_wp2_with fail;refine (hLf.out _ _ Go.Sx.own).mono ?_;rintro en w8 ⟨rfl,hs8⟩;clear hs7;go_wp2_with fail;refine ⟨zq,?_⟩
    iterate 5 ((first | (refine zpI rfl (by rfl) ?_;apply Exists.intro;refine ⟨fun w hSw=>?_,?_⟩;focus ((try dsimp only at hSw);go_simp;try with_reducible rfl)) | refine zpH rfl (by rfl) ?_);simp only [Act.put,Go.zqA,Go.zqP,Go.zqQ])
    refine zB ?_;go_wp2_with fail;go_ret;exact ⟨rfl,z3⟩
   ·have hX:=hid (hN.out (by unfold wdE;rw [if_neg (by simp [hok])];exact he));have ew:wdE c0 s0=scE s0:=by unfold wdE;rw [if_neg (by simp [hok])]
    rw [ew] at hX;clear ew hN hY;generalize scE s0=e at *;have q1:(e != e)=false:=by simp
    have q2:(e != 0)=true:=by simp [he]
    have q3:(e==e)=true:=by simp
    clear he;go_wp2_with fail;refine (hR.out _ z3).mono ?_;rintro en w3 ⟨rfl,hp⟩;have hs3:=Sat.past (w0:=w0) z6 hp;clear hp hs2;go_wp2_with fail;refine (hC.out _ z3).mono ?_;rintro en w4 ⟨rfl,hp⟩;have hs4:=Sat.past (w0:=w0) z6 hp;clear hp hs3;go_wp2_with fail;refine (hF.out _ z3).mono ?_;rintro en w5 ⟨f,rfl,hp,hz⟩;have hs5:=Sat.past (w0:=w0) z6 hp;clear hp hs4;obtain ⟨fe,fp,fi,fa⟩:=f;obtain rfl:fe=0:=hz.2 (hfi.1 hok);clear hz hfi hok;unfold ftV;go_wp2_with fail;refine (hX.out _ z3).mono ?_;rintro en w6 ⟨rfl,hp⟩;have hs6:=Sat.past (w0:=w0) z6 hp;clear hp hs5;go_wp2_with fail;go_quiet (fail);go_wp2_with fail;go_ret;exact ⟨rfl,z3⟩
  ·-- a wrong system
   by_cases he:scE s0=0
   ·have ew:wdE c0 s0=3:=by unfold wdE;rw [if_pos hok]
    have hX:=hid (hN.out (by rw [ew];decide));rw [ew] at hX;rw [he] at hR hC;clear ew hN hY he;go_wp2_with fail;refine (hR.out _ z3).mono ?_;rintro en w3 ⟨rfl,hp⟩;have hs3:=Sat.past (w0:=w0) z6 hp;clear hp hs2;go_wp2_with fail;refine (hC.out _ z3).mono ?_;rintro en w4 ⟨rfl,hp⟩;have hs4:=Sat.past (w0:=w0) z6 hp;clear hp hs3;go_wp2_with fail;refine (hF.out _ z3).mono ?_;rintro en w5 ⟨f,rfl,hp,hz⟩;have hs5:=Sat.past (w0:=w0) z6 hp;clear hp hs4;obtain ⟨fe,fp,fi,fa⟩:=f;have hfe:(fe != 0)=true:=by
     have:fe≠0:=fun h=>hok (hfi.2 (hz.1 h));simp [this]
    clear hz hfi hok;unfold ftV;go_wp2_with fail;refine (hX.out _ z3).mono ?_;rintro en w6 ⟨rfl,hp⟩;have hs6:=Sat.past (w0:=w0) z6 hp;clear hp hs5;go_wp2_with fail;go_quiet (fail);go_wp2_with fail;go_ret;exact ⟨rfl,z3⟩
   ·have ew:wdE c0 s0=3:=by unfold wdE;rw [if_pos hok]
    have hX:=hid (hN.out (by rw [ew];decide));rw [ew] at hX;clear ew hN hY;generalize scE s0=e at *;have q1:(e != e)=false:=by simp
    clear he;go_wp2_with fail;refine (hR.out _ z3).mono ?_;rintro en w3 ⟨rfl,hp⟩;have hs3:=Sat.past (w0:=w0) z6 hp;clear hp hs2;go_wp2_with fail;refine (hC.out _ z3).mono ?_;rintro en w4 ⟨rfl,hp⟩;have hs4:=Sat.past (w0:=w0) z6 hp;clear hp hs3;go_wp2_with fail;refine (hF.out _ z3).mono ?_;rintro en w5 ⟨f,rfl,hp,hz⟩;have hs5:=Sat.past (w0:=w0) z6 hp;clear hp hs4;obtain ⟨fe,fp,fi,fa⟩:=f;have hfe:(fe != 0)=true:=by
     have:fe≠0:=fun h=>hok (hfi.2 (hz.1 h));simp [this]
    clear hz hfi hok;unfold ftV;go_wp2_with fail;refine (hX.out _ z3).mono ?_;rintro en w6 ⟨rfl,hp⟩;have hs6:=Sat.past (w0:=w0) z6 hp;clear hp hs5;go_wp2_with fail;go_quiet (fail);go_wp2_with fail;go_ret;exact ⟨rfl,z3⟩
end Go.Proofs.YtlbjjoeocdimfaaGreatDoor
