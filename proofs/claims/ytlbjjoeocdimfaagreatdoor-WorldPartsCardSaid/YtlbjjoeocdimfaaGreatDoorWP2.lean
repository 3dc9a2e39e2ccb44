/-
  Parts of the proof: SameD WorldD Great LNil WorldF WorldH WorldB WorldK WorldN.
-/
import Derived.Test.YtlbjjoeocdimfaaGreatDoorKD5
import Derived.Test.YtlbjjoeocdimfaaGreatDoorKD9
import Derived.Test.YtlbjjoeocdimfaaGreatDoorKD12
import Derived.Test.YtlbjjoeocdimfaaGreatDoorKD13
import Derived.Test.YtlbjjoeocdimfaaGreatDoorKD15
import Derived.Test.YtlbjjoeocdimfaaGreatDoorKD18
import Derived.Test.YtlbjjoeocdimfaaGreatDoorWP0
import Derived.Test.YtlbjjoeocdimfaaGreatDoorWP1
set_option linter.unusedVariables false
set_option linter.unusedSimpArgs false
set_option maxHeartbeats 32000000
set_option maxRecDepth 100000
namespace Go.Proofs.YtlbjjoeocdimfaaGreatDoor
open Go.RowKit Go.Sx Go.Dl Go.Lk Go.Rq Go.Au
theorem zmw {w0 w:World} {s:Sn} {y:Sv} {F:HP} (hs:Sat w0 w (stH y s*F)):zjC w (.agg (stL s y).toArray) s:=by
 unfold stH at hs;have h1:=hs.perm (zb _ _ _);have h2:=h1.drop.perm (zb _ _ _);have h3:=h2.drop.perm (zb _ _ _);have h4:=h3.drop.perm (zb _ _ _);have h5:=h4.drop.perm (zb _ _ _);have h6:=h5.drop.perm (zb _ _ _);have h7:=h6.drop.perm (zb _ _ _);have h8:=h7.drop.perm (zb _ _ _);have h9:=h8.drop.perm (zb _ _ _);have h10:=h9.drop.perm (zb _ _ _);have h11:=h10.drop.perm (zb _ _ _);exact ⟨y,rfl,h1.rdN,z4T h2,zmx h3,z4T h4,h5.rdN,z4T h6,h7.rdN,z4T h8,z4T h9,z4T h10,z4T h11,h11.drop.rdR⟩
section
variable (g b:Nat) (y:Fx) (c:Cf) (ta:Option Addr) (tc:Nat) (W:Wd)
variable (w0 w:World) (F:HP) (hs:Sat w0 w (wdP g b y c ta tc W*F))
include hs
theorem zsi (hd:(W.done:Int)≤W.steps∧W.steps≤65536):Calls Tryz.prog 39 #[.pointer (some ⟨g,0,none⟩)] w (zp w0 (.int .i64 (W.steps-W.done)) (wdP g b y c ta tc W*F)):=by
 have u1:IntKind.i64.wrap (W.steps-W.done)=W.steps-W.done:=by rw [IntKind.wrap_i64];omega
 clear hd
 go_enter Tryz.func39,Tryz.ntmps39
 go_wp2_with fail;go_quiet (fail);go_wp2_with fail;go_ret;exact ⟨rfl,z3⟩
end
structure zez (c:Cf):Prop where
 t:c.ts.length≤70
 l:c.ls.length≤20
 s:c.sems.length≤40
 q:c.queues.length≤40
 m:c.timers.length≤40
 tc:∀ t,t<c.ts.length→(tcg c t).code.length≤300
 lc:∀ t,t<c.ls.length→(lcg c t).code.length≤300
def znV (w0:World) (P:HP) (Q:Prop) (e:Ending) (w':World):Prop:=∃ z:Bool,e=.returned (.bool z)∧Sat w0 w' P∧(z=false→Q)
theorem zik (v:Value) (c:Cf) (w0:World) (hr:z8I w0 v c) :
  Calls Tryz.prog 49 #[v] w0 (znV w0 emp (zez c)):=by
 have hs:=Sat.start w0;obtain ⟨tv,lv,sv,qv,mv,rfl,⟨T,hT,hTn,hTi⟩,⟨L,hL,hLn,hLi⟩,hS,hQ,hM⟩:=hr.out;clear hr;obtain ⟨sa,scap,_,_,rfl,_⟩:=hS;obtain ⟨qa,qcap,_,_,rfl,_⟩:=hQ;obtain ⟨ma,mcap,_,_,rfl,_⟩:=hM;obtain ⟨ta,tcap,tg,tto,rfl,_,_,hta,htc⟩:=hT;obtain ⟨la,lcap,lg',lo,rfl,_,_,hla,hlc⟩:=hL;rw [hTn,hLn];have Hta:=hid hta;have Htc:=hid htc;have Hla:=hid hla;have Hlc:=hid hlc;have HTn:=hid hTn;have HLn:=hid hLn;have HTi:=hid hTi;have HLi:=hid hLi;clear hta htc hla hlc hTn hLn hTi hLi
 by_cases g1:70<c.ts.length
 ·have d1:decide (70<c.ts.length)=true:=decide_eq_true g1;have d2:decide ((70:Int)<(c.ts.length:Int))=true:=by simp;omega
  clear g1
  go_enter Tryz.func49,Tryz.ntmps49
  go_wp2_with fail;go_ret;exact ⟨true,rfl,z3,fun h=>by cases h⟩
 have d1:decide (70<c.ts.length)=false:=decide_eq_false g1;have e1:decide ((70:Int)<(c.ts.length:Int))=false:=by simp;omega
 by_cases g2:20<c.ls.length
 ·have d2:decide (20<c.ls.length)=true:=decide_eq_true g2;have e2:decide ((20:Int)<(c.ls.length:Int))=true:=by simp;omega
  go_enter Tryz.func49,Tryz.ntmps49
  go_wp2_with fail;go_ret;exact ⟨true,rfl,z3,fun h=>by cases h⟩
 have d2:decide (20<c.ls.length)=false:=decide_eq_false g2;have e2:decide ((20:Int)<(c.ls.length:Int))=false:=by simp;omega
 by_cases g3:40<c.sems.length
 ·have d3:decide (40<c.sems.length)=true:=decide_eq_true g3;have e3:decide ((40:Int)<(c.sems.length:Int))=true:=by simp;omega
  go_enter Tryz.func49,Tryz.ntmps49
  go_wp2_with fail;go_ret;exact ⟨true,rfl,z3,fun h=>by cases h⟩
 have d3:decide (40<c.sems.length)=false:=decide_eq_false g3;have e3:decide ((40:Int)<(c.sems.length:Int))=false:=by simp;omega
 by_cases g4:40<c.queues.length
 ·have d4:decide (40<c.queues.length)=true:=decide_eq_true g4;have e4:decide ((40:Int)<(c.queues.length:Int))=true:=by simp;omega
  go_enter Tryz.func49,Tryz.ntmps49
  go_wp2_with fail;go_ret;exact ⟨true,rfl,z3,fun h=>by cases h⟩
 have d4:decide (40<c.queues.length)=false:=decide_eq_false g4;have e4:decide ((40:Int)<(c.queues.length:Int))=false:=by simp;omega
 by_cases g5:40<c.timers.length
 ·have d5:decide (40<c.timers.length)=true:=decide_eq_true g5;have e5:decide ((40:Int)<(c.timers.length:Int))=true:=by simp;omega
  go_enter Tryz.func49,Tryz.ntmps49
  go_wp2_with fail;go_ret;exact ⟨true,rfl,z3,fun h=>by cases h⟩
 have d5:decide (40<c.timers.length)=false:=decide_eq_false g5;have e5:decide ((40:Int)<(c.timers.length:Int))=false:=by simp;omega
 go_enter Tryz.func49,Tryz.ntmps49
 go_wp2_with fail;refine z9 (w0:=w0) ?_;intro ww hsw;clear hs
 go_loopw [3,4] (fun nv i wr=>∃ k n:Nat,k≤c.ts.length∧n≤300*k∧nv=.int .i64 n∧i=.int .i64 k∧(∀ j,j<k→(tcg c j).code.length≤300)∧Sat w0 wr (pts w0.heap.size 0 [.slice ta c.ts.length tcap,.slice la c.ls.length lcap,.int .i64 c.mutexes,.slice sa c.sems.length scap,.slice qa c.queues.length qcap,.slice ma c.timers.length mcap,.int .i64 c.table,.int .u32 c.mask,.int .u32 c.filter,.int .i64 c.charge,.int .u64 c.cycle,.int .u64 c.count]*any)) (fun _ i _=>c.ts.length-(intOf i).toNat)
 case atStart=>exact ⟨0,0,Nat.zero_le _,Nat.zero_le _,rfl,rfl,fun j hj=>absurd hj (by omega),z3⟩
 case round =>
  obtain ⟨k,n,hk,hn,rfl,rfl,hb,hsr⟩:=hrel;clear hsw;have Hb:=hid hb;clear hb
  by_cases hlt:k<c.ts.length
  ·have f3:decide (k<c.ts.length)=true:=decide_eq_true hlt;have i3:(k:Int)<(c.ts.length:Int):=by omega
   have hTl:=HTn.out;obtain rfl:=Hta.out (by intro h;simp [h] at hTl;omega);have hit:=HTi.out k hlt;obtain ⟨u,hu⟩:∃ u,u=T.getD k tv0:=⟨_,rfl⟩;have oc:∀ c' y,c'<6→(z8Q.enc u)[c']?=some y→w0.cell? ⟨tg,tto+k*6+c',none⟩=some y:=fun c' y hc6 he=>z2i Htc.out (by omega) hc6 (by show (z8Q.enc (T.getD k tv0))[c']?=some y;rw [← hu];exact he);rw [← hu] at hit;have hcl:u.cn=(tcg c k).code.length:=hit.code.caps.1;haveI o5:Old w0 tg (tto+k*6+5) (.slice u.ca u.cn u.cc):=⟨oc 5 _ (by decide) rfl⟩;clear oc hu hTl hit
   by_cases hz0:300<u.cn
   ·have f4:decide (300<u.cn)=true:=decide_eq_true hz0;have i4:decide ((300:Int)<(u.cn:Int))=true:=by simp;omega
    clear hcl;go_wp2_with fail;go_ret;exact ⟨true,rfl,z3,fun h=>by cases h⟩
   ·have f4:decide (300<u.cn)=false:=decide_eq_false hz0;have i4:decide ((300:Int)<(u.cn:Int))=false:=by simp;omega
    have hb2:Hid (∀ j,j<k+1→(tcg c j).code.length≤300):=hid fun j hj=>by
     rcases Nat.lt_or_ge j k with h | h
     ·exact Hb.out j h
     ·obtain rfl:j=k:=by omega
      omega
    clear hcl;go_wp2_with fail;go_roundw
    case rel=>exact ⟨k+1,n+u.cn,by omega,by omega,by go_num,by go_num,hb2.out,z3⟩
    case measure=>simp [intOf];omega
  ·have hkl:k=c.ts.length:=by omega
   subst hkl;have f3:decide (c.ts.length<c.ts.length)=false:=by simp
   clear hlt hk;go_wp2_with fail;refine z9 (w0:=w0) ?_;intro w3 hs3;clear hsr
   go_loopw [3,5] (fun nv i wr=>∃ k n:Nat,k≤c.ls.length∧n≤300*70+300*k∧nv=.int .i64 n∧i=.int .i64 k∧(∀ j,j<k→(lcg c j).code.length≤300)∧Sat w0 wr (pts w0.heap.size 0 [.slice ta c.ts.length tcap,.slice la c.ls.length lcap,.int .i64 c.mutexes,.slice sa c.sems.length scap,.slice qa c.queues.length qcap,.slice ma c.timers.length mcap,.int .i64 c.table,.int .u32 c.mask,.int .u32 c.filter,.int .i64 c.charge,.int .u64 c.cycle,.int .u64 c.count]*any)) (fun _ i _=>c.ls.length-(intOf i).toNat)
   case atStart=>exact ⟨0,n,Nat.zero_le _,by omega,rfl,rfl,fun j hj=>absurd hj (by omega),z3⟩
   case round =>
    obtain ⟨k,n,hk,hn,rfl,rfl,hb,hsr⟩:=hrel;clear hs3;have Hb2:=hid hb;clear hb
    by_cases hlt:k<c.ls.length
    ·have f3:decide (k<c.ls.length)=true:=decide_eq_true hlt;have i3:(k:Int)<(c.ls.length:Int):=by omega
     have hLl:=HLn.out;obtain rfl:=Hla.out (by intro h;simp [h] at hLl;omega);have hit:=HLi.out k hlt;obtain ⟨u,hu⟩:∃ u,u=L.getD k lv0:=⟨_,rfl⟩;have oc:∀ c' y,c'<2→(z8P.enc u)[c']?=some y→w0.cell? ⟨lg',lo+k*2+c',none⟩=some y:=fun c' y hc6 he=>z2i Hlc.out (by omega) hc6 (by show (z8P.enc (L.getD k lv0))[c']?=some y;rw [← hu];exact he);rw [← hu] at hit;have hcl:u.cn=(lcg c k).code.length:=hit.code.caps.1;haveI o5:Old w0 lg' (lo+k*2+1) (.slice u.ca u.cn u.cc):=⟨oc 1 _ (by decide) rfl⟩;clear oc hu hLl hit
     by_cases hz0:300<u.cn
     ·have f4:decide (300<u.cn)=true:=decide_eq_true hz0;have i4:decide ((300:Int)<(u.cn:Int))=true:=by simp;omega
      clear hcl;go_wp2_with fail;go_ret;exact ⟨true,rfl,z3,fun h=>by cases h⟩
     ·have f4:decide (300<u.cn)=false:=decide_eq_false hz0;have i4:decide ((300:Int)<(u.cn:Int))=false:=by simp;omega
      have hb2:Hid (∀ j,j<k+1→(lcg c j).code.length≤300):=hid fun j hj=>by
       rcases Nat.lt_or_ge j k with h | h
       ·exact Hb2.out j h
       ·obtain rfl:j=k:=by omega
        omega
      clear hcl;go_wp2_with fail;go_roundw
      case rel=>exact ⟨k+1,n+u.cn,by omega,by omega,by go_num,by go_num,hb2.out,z3⟩
      case measure=>simp [intOf];omega
    ·have hkl:k=c.ls.length:=by omega
     subst hkl;have f3:decide (c.ls.length<c.ls.length)=false:=by simp
     clear hlt hk;go_wp2_with fail;go_ret;exact ⟨_,rfl,z3,fun _=>⟨by omega,by omega,by omega,by omega,by omega,Hb.out,Hb2.out⟩⟩
theorem z9a (v:Value) (c:Cf) (n:Int) (w0:World) (hr:z8I w0 v c) :
  Calls Tryz.prog 13 #[v,.int .i64 n] w0 (znV w0 emp (zez c∧n≤200)):=by
 have hs:=Sat.start w0;have hA:=hid (fun (w:World) (h:Sat w0 w any)=>zik v c w (hr.later h));obtain ⟨tv,lv,sv,qv,mv,rfl,⟨T,hT,hTn,hTi⟩,⟨L,hL,hLn,hLi⟩,hS,hQ,hM⟩:=hr.out;clear hr;obtain ⟨sa,scap,_,_,rfl,_⟩:=hS;obtain ⟨qa,qcap,_,_,rfl,_⟩:=hQ;obtain ⟨ma,mcap,_,_,rfl,_⟩:=hM;obtain ⟨ta,tcap,tg,tto,rfl,_,_,hta,htc⟩:=hT;obtain ⟨la,lcap,lg',lo,rfl,_,_,hla,hlc⟩:=hL;rw [hTn,hLn] at hA;rw [hTn,hLn];have Hta:=hid hta;have Htc:=hid htc;have Hla:=hid hla;have Hlc:=hid hlc;have HTn:=hid hTn;have HLn:=hid hLn;have HTi:=hid hTi;have HLi:=hid hLi;clear hta htc hla hlc hTn hLn hTi hLi
 go_enter Tryz.func13,Tryz.ntmps13
 go_wp2_with fail;refine (hA.out _ z3).mono ?_;rintro en w1 ⟨z,rfl,hs1,hz⟩;have hs2:=Sat.past (w0:=w0) z6 hs1;have Hz:=hid hz;clear hs1 hs hz hA
 cases z
 case true =>
  go_wp2_with fail;go_ret;exact ⟨true,rfl,z3,fun h=>by cases h⟩
 case false =>
  have hp:=Hz.out rfl;have g1:=hp.t;have g2:=hp.l;have Hp:=hid hp;clear hp Hz;go_wp2_with fail;refine z9 (w0:=w0) ?_;intro ww hsw;clear hs2
  go_loopw [5,15] (fun nv i wr=>∃ k m:Nat,k≤c.ts.length∧m≤1000*k∧nv=.int .i64 m∧i=.int .i64 k∧Sat w0 wr (pts w0.heap.size 0 [.slice ta c.ts.length tcap,.slice la c.ls.length lcap,.int .i64 c.mutexes,.slice sa c.sems.length scap,.slice qa c.queues.length qcap,.slice ma c.timers.length mcap,.int .i64 c.table,.int .u32 c.mask,.int .u32 c.filter,.int .i64 c.charge,.int .u64 c.cycle,.int .u64 c.count]*any)) (fun _ i _=>c.ts.length-(intOf i).toNat)
  case atStart=>exact ⟨0,0,Nat.zero_le _,Nat.zero_le _,rfl,rfl,z3⟩
  case round =>
   obtain ⟨k,m,hk,hm,rfl,rfl,hsr⟩:=hrel;clear hsw
   by_cases hlt:k<c.ts.length
   ·have f3:decide (k<c.ts.length)=true:=decide_eq_true hlt;have i3:(k:Int)<(c.ts.length:Int):=by omega
    have hTl:=HTn.out;obtain rfl:=Hta.out (by intro h;simp [h] at hTl;omega);obtain ⟨u,hu⟩:∃ u,u=T.getD k tv0:=⟨_,rfl⟩;have oc:∀ c' y,c'<6→(z8Q.enc u)[c']?=some y→w0.cell? ⟨tg,tto+k*6+c',none⟩=some y:=fun c' y hc6 he=>z2i Htc.out (by omega) hc6 (by show (z8Q.enc (T.getD k tv0))[c']?=some y;rw [← hu];exact he);haveI o0:Old w0 tg (tto+k*6) (.int .i64 u.lev):=⟨oc 0 _ (by decide) rfl⟩;haveI o1:Old w0 tg (tto+k*6+1) (.int .i64 u.off):=⟨oc 1 _ (by decide) rfl⟩;haveI o2:Old w0 tg (tto+k*6+2) (.int .i64 u.per):=⟨oc 2 _ (by decide) rfl⟩;haveI o3:Old w0 tg (tto+k*6+3) (.int .i64 u.dl):=⟨oc 3 _ (by decide) rfl⟩;haveI o4:Old w0 tg (tto+k*6+4) (.int .i64 u.mem):=⟨oc 4 _ (by decide) rfl⟩;haveI o5:Old w0 tg (tto+k*6+5) (.slice u.ca u.cn u.cc):=⟨oc 5 _ (by decide) rfl⟩;clear oc hu hTl;have hq:∀ x:Int,0≤(if 1000<(if x<0 then 0 else x) then 1000 else if x<0 then 0 else x)∧(if 1000<(if x<0 then 0 else x) then 1000 else if x<0 then 0 else x)≤1000:=fun x=>by split<;>split<;>omega
    have Hq:=hid (hq u.mem);clear hq;go_wp2_with fail;have Hq:=Hq.out;generalize (if 1000<(if u.mem<0 then 0 else u.mem) then (1000:Int) else if u.mem<0 then 0 else u.mem)=q at *;obtain ⟨q,rfl⟩:=Int.eq_ofNat_of_zero_le Hq.1;refine ⟨⟨k+1,m+q,by omega,by omega,by go_num,by go_num,z3⟩,?_⟩;simp [intOf];omega
   ·have hkl:k=c.ts.length:=by omega
    subst hkl;have f3:decide (c.ts.length<c.ts.length)=false:=by simp
    clear hlt hk;go_wp2_with fail;refine z9 (w0:=w0) ?_;intro w3 hs3;clear hsr
    go_loopw [5,29] (fun nv i wr=>∃ k m:Nat,k≤c.ls.length∧m≤70000+1000*k∧nv=.int .i64 m∧i=.int .i64 k∧Sat w0 wr (pts w0.heap.size 0 [.slice ta c.ts.length tcap,.slice la c.ls.length lcap,.int .i64 c.mutexes,.slice sa c.sems.length scap,.slice qa c.queues.length qcap,.slice ma c.timers.length mcap,.int .i64 c.table,.int .u32 c.mask,.int .u32 c.filter,.int .i64 c.charge,.int .u64 c.cycle,.int .u64 c.count]*any)) (fun _ i _=>c.ls.length-(intOf i).toNat)
    case atStart=>exact ⟨0,m,Nat.zero_le _,by omega,rfl,rfl,z3⟩
    case round =>
     obtain ⟨k,m,hk,hm,rfl,rfl,hsr⟩:=hrel;clear hs3
     by_cases hlt:k<c.ls.length
     ·have f3:decide (k<c.ls.length)=true:=decide_eq_true hlt;have i3:(k:Int)<(c.ls.length:Int):=by omega
      have hLl:=HLn.out;obtain rfl:=Hla.out (by intro h;simp [h] at hLl;omega);obtain ⟨u,hu⟩:∃ u,u=L.getD k lv0:=⟨_,rfl⟩;have oc:∀ c' y,c'<2→(z8P.enc u)[c']?=some y→w0.cell? ⟨lg',lo+k*2+c',none⟩=some y:=fun c' y hc6 he=>z2i Hlc.out (by omega) hc6 (by show (z8P.enc (L.getD k lv0))[c']?=some y;rw [← hu];exact he);haveI o0:Old w0 lg' (lo+k*2) (.int .i64 u.mem):=⟨oc 0 _ (by decide) rfl⟩;haveI o1:Old w0 lg' (lo+k*2+1) (.slice u.ca u.cn u.cc):=⟨oc 1 _ (by decide) rfl⟩;clear oc hu hLl;have hq:∀ x:Int,0≤(if 1000<(if x<0 then 0 else x) then 1000 else if x<0 then 0 else x)∧(if 1000<(if x<0 then 0 else x) then 1000 else if x<0 then 0 else x)≤1000:=fun x=>by split<;>split<;>omega
      have Hq:=hid (hq u.mem);clear hq;go_wp2_with fail;have Hq:=Hq.out;generalize (if 1000<(if u.mem<0 then 0 else u.mem) then (1000:Int) else if u.mem<0 then 0 else u.mem)=q at *;obtain ⟨q,rfl⟩:=Int.eq_ofNat_of_zero_le Hq.1;refine ⟨⟨k+1,m+q,by omega,by omega,by go_num,by go_num,z3⟩,?_⟩;simp [intOf];omega
     ·have hkl:k=c.ls.length:=by omega
      subst hkl;have f3:decide (c.ls.length<c.ls.length)=false:=by simp
      clear hlt hk
      by_cases hn:200<n
      ·have f4:decide (200<n)=true:=decide_eq_true hn;go_wp2_with fail;go_ret;exact ⟨true,rfl,z3,fun h=>by cases h⟩
      ·have f4:decide (200<n)=false:=decide_eq_false hn;go_wp2_with fail;go_ret
       first | exact ⟨_,rfl,z3,fun _=>Hp.out⟩ | exact ⟨_,rfl,z3,fun _=>⟨Hp.out,by omega⟩⟩
def snZ:Sn:=⟨0,0,0,0,0,r80,[],[],0,0,[],[],[],[],[],[],[],[],[],[],0,false⟩
theorem zjo (w:World):zjC w (.agg zsP.toArray) snZ:=by
 have nl:∀ κ,RdN κ w (.slice none 0 0) []:=fun κ=>⟨none,0,0,0,rfl,Nat.le_refl _,Nat.zero_le _,fun h=>absurd rfl h,fun j hj=>absurd hj (Nat.not_lt_zero _)⟩;have rw0:∀ κ,z8J κ w (.slice none 0 0) []:=fun κ=>⟨[],z5D w,rfl,fun i hi=>absurd hi (Nat.not_lt_zero _)⟩;exact ⟨⟨.slice none 0 0,.slice none 0 0,.slice none 0 0,.slice none 0 0,.slice none 0 0,.slice none 0 0,.slice none 0 0,.slice none 0 0,.slice none 0 0,.slice none 0 0,.slice none 0 0,.slice none 0 0⟩,rfl,nl _,rw0 _,⟨[],z5D w,rfl,fun i hi=>absurd hi (Nat.not_lt_zero _)⟩,rw0 _,nl _,rw0 _,nl _,rw0 _,rw0 _,rw0 _,rw0 _,z5D w⟩
theorem zsg {w0 w:World} {v:Value} {s:Sn} {F:HP} (hs:Sat w0 w (stP v s*F)):zjC w v s:=by
 obtain ⟨y,rfl,h⟩:=z9H hs;exact zmw h
theorem zrn (v u:Value) (c:Cf) (s:Sc) (rg:z6B c) (w0:World) (hr:z8I w0 v c) (hq:zqQ w0 u s) (he:wdE c s≠0) :
  Calls Tryz.prog 37 #[v,u] w0 (zp w0 (.tuple #[.pointer none,.int .i64 (wdE c s)]) emp):=by
 unfold wdE at he ⊢
 split at he
 ·rename_i h;rw [if_pos h];exact zqO v u c s rg w0 hr hq h
 ·rename_i h;rw [if_neg h];exact zr6 v u c s rg w0 hr hq (Classical.not_not.1 h) he
theorem zs3 (v u:Value) (c:Cf) (s:Sc) (rg:z6B c) (w0:World) (hr:z8I w0 v c) (hq:zqQ w0 u s) (he:wdE c s≠0) :
  Calls Tryz.prog 35 #[v,u] w0 (zp w0 (.tuple #[.slice none 0 0,.agg zsP.toArray,.int .i64 (wdE c s)]) any):=by
 have hs:=Sat.start w0;have hN:=hid (fun (w:World) (h:Sat w0 w any)=>zrn v u c s rg w (hr.later h) (hq.later h) he);obtain ⟨ta,la,sa,qa,ma,tc,lc,sc,qc,mc,rfl,_,_,_,_,_⟩:=hr.form;obtain ⟨aa,ac,ta2,tc2,rfl,_,_⟩:=hq;have e1:(wdE c s != 0)=true:=by simp [he]
 clear hr he;generalize wdE c s=z at *
 go_enter Tryz.func35,Tryz.ntmps35
 go_wp2_with fail;refine (hN.out _ z3).mono ?_;rintro en w1 ⟨rfl,hp⟩;have hs2:=Sat.past (w0:=w0) z6 hp;clear hs hp;go_wp2_with (first | (refine z09 (w0:=w0) (cells:=zsP) (old:=zsP) rfl rfl rfl rfl Go.Sx.own rfl (by kernel_rfl) rfl ?_;intro w5 hs5));refine bodyPost_ret (zqv Tryz.results35 rfl hs5 Tryz.underlying51 rfl (by kernel_rfl)) rfl ?_;exact ⟨rfl,z3⟩
theorem zrq {l m:List Ev} (hlen:l.length=m.length) {k:Nat} (hk:k<l.length) (h:l.take k=m.take k) (e:l.getD k ev0=m.getD k ev0):l.take (k+1)=m.take (k+1):=by
 rw [List.take_succ_eq_append_getElem hk,List.take_succ_eq_append_getElem (by omega),h];have e1:l.getD k ev0=l[k]:=by simp [List.getD,hk]
 have e2:m.getD k ev0=m[k]:=by simp [List.getD,show k<m.length by omega]
 rw [← e1,← e2,e]
theorem zsa (x y:Ev) (h:x≠y) (w:World):(binOp .neq 89 (.agg #[.int .i64 x.k,.int .u64 x.cy,.int .u64 x.co,.int .u32 x.a,.int .u32 x.b,.int .u32 x.v]) (.agg #[.int .i64 y.k,.int .u64 y.cy,.int .u64 y.co,.int .u32 y.a,.int .u32 y.b,.int .u32 y.v])).run Tryz.prog w=.ok (.bool true) w:=by
 obtain ⟨a1,a2,a3,a4,a5,a6⟩:=x;obtain ⟨b1,b2,b3,b4,b5,b6⟩:=y
 go_simp
 by_cases h1:a1=b1
 case neg=>simp [h1]
 subst h1
 by_cases h2:a2=b2
 case neg=>simp [h2]
 subst h2
 by_cases h3:a3=b3
 case neg=>simp [h3]
 subst h3
 by_cases h4:a4=b4
 case neg=>simp [h4];omega
 subst h4
 by_cases h5:a5=b5
 case neg=>simp [h5];omega
 subst h5
 by_cases h6:a6=b6
 case neg=>simp [h6];omega
 subst h6;exact absurd rfl h
theorem zs5 (v u:Value) (l m:List Ev) (z:Bool) (hz:z=true↔l=m) (w0:World) (h1:RdR w0 v l) (h2:RdR w0 u m):Calls Tryz.prog 22 #[v,u] w0 (zp w0 (.bool z) emp):=by
 have hs:=Sat.start w0;obtain ⟨a,cap,b,off,rfl,hcap,hbig,ha,hc⟩:=h1;obtain ⟨la,lcap,lb,loff,rfl,hlcap,hlbig,hla,hlc⟩:=h2;unfold maxLen at hbig hlbig
 by_cases hlen:l.length=m.length
 ·have hb:((l.length:Int) != (m.length:Int))=false:=by simp [hlen]
  have hlen':=hid hlen;have Ha:=hid ha;have Hc:=hid hc;have Hla:=hid hla;have Hlc:=hid hlc;have Hz:=hid hz;clear hlen ha hc hla hlc hz
  go_enter Tryz.func22,Tryz.ntmps22
  go_wp2_with fail;refine z9 (w0:=w0) ?_;intro ww hsw;clear hs
  go_loopw [5] (fun i wr=>∃ k:Nat,k≤l.length∧i=.int .i64 k∧l.take k=m.take k∧Sat w0 wr emp) (fun i _=>l.length-(intOf i).toNat)
  case atStart=>exact ⟨0,Nat.zero_le _,rfl,rfl,z3⟩
  case round =>
   obtain ⟨k,hk,rfl,heq,hsr⟩:=hrel;clear hsw;have Heq:=hid heq;clear heq
   by_cases hlt:k<l.length
   ·have hlt2:k<m.length:=by have:=hlen'.out;omega
    have f3:decide (k<l.length)=true:=decide_eq_true hlt;have f4:decide (k<m.length)=true:=decide_eq_true hlt2;have i3:(k:Int)<(l.length:Int):=by omega
    have i4:(k:Int)<(m.length:Int):=by omega
    obtain rfl:=Ha.out (by intro h;simp [h] at hlt);obtain rfl:=Hla.out (by intro h;simp [h] at hlt2);obtain ⟨x,hx⟩:∃ x,x=l.getD k ev0:=⟨_,rfl⟩;obtain ⟨y,hy⟩:∃ y,y=m.getD k ev0:=⟨_,rfl⟩;have ox:∀ c u,c<6→(zjV.enc x)[c]?=some u→w0.cell? ⟨b,off+k*6+c,none⟩=some u:=fun c u hc6 he=>z2i Hc.out hlt hc6 (by show (zjV.enc (l.getD k ev0))[c]?=some u;rw [← hx];exact he);have oy:∀ c u,c<6→(zjV.enc y)[c]?=some u→w0.cell? ⟨lb,loff+k*6+c,none⟩=some u:=fun c u hc6 he=>z2i Hlc.out hlt2 hc6 (by show (zjV.enc (m.getD k ev0))[c]?=some u;rw [← hy];exact he);haveI x0:Old w0 b (off+k*6) (.int .i64 x.k):=⟨ox 0 _ (by decide) rfl⟩;haveI x1:Old w0 b (off+k*6+1) (.int .u64 x.cy):=⟨ox 1 _ (by decide) rfl⟩;haveI x2:Old w0 b (off+k*6+2) (.int .u64 x.co):=⟨ox 2 _ (by decide) rfl⟩;haveI x3:Old w0 b (off+k*6+3) (.int .u32 x.a):=⟨ox 3 _ (by decide) rfl⟩;haveI x4:Old w0 b (off+k*6+4) (.int .u32 x.b):=⟨ox 4 _ (by decide) rfl⟩;haveI x5:Old w0 b (off+k*6+5) (.int .u32 x.v):=⟨ox 5 _ (by decide) rfl⟩;haveI y0:Old w0 lb (loff+k*6) (.int .i64 y.k):=⟨oy 0 _ (by decide) rfl⟩;haveI y1:Old w0 lb (loff+k*6+1) (.int .u64 y.cy):=⟨oy 1 _ (by decide) rfl⟩;haveI y2:Old w0 lb (loff+k*6+2) (.int .u64 y.co):=⟨oy 2 _ (by decide) rfl⟩;haveI y3:Old w0 lb (loff+k*6+3) (.int .u32 y.a):=⟨oy 3 _ (by decide) rfl⟩;haveI y4:Old w0 lb (loff+k*6+4) (.int .u32 y.b):=⟨oy 4 _ (by decide) rfl⟩;haveI y5:Old w0 lb (loff+k*6+5) (.int .u32 y.v):=⟨oy 5 _ (by decide) rfl⟩;have hnext:=hid (fun (e:x=y)=>zrq hlen'.out hlt Heq.out (by rw [← hx,← hy];exact e));have hne:Hid (x≠y→l≠m):=fun h e=>h (by rw [hx,hy,e]);clear ox oy hx hy
    by_cases hxy:x=y
    ·subst hxy;have hn2:=hid (hnext.out rfl);clear hnext hne;go_wp2_with fail;go_quiet (fail);go_wp2_with fail;go_roundw
     case rel=>exact ⟨k+1,by omega,by go_num,hn2.out,z3⟩
     case measure=>simp [intOf];omega
    ·have q:=zsa x y hxy;have hz0:z=false:=by
      cases e:z with
      | false=>rfl
      | true=>exact absurd (Hz.out.1 e) (hne.out hxy)
     subst hz0;clear hnext hne hxy;go_wp2_with fail;go_quiet (fail);go_wp2_with fail;go_ret;exact ⟨rfl,z3⟩
   ·have hkl:k=l.length:=by omega
    subst hkl;have f3:decide (l.length<l.length)=false:=by simp
    have hz1:z=true:=Hz.out.2 (by have h1:=Heq.out;rw [List.take_of_length_le (by omega),List.take_of_length_le (by have:=hlen'.out;omega)] at h1;exact h1);subst hz1;clear hlt hk;go_wp2_with fail;go_ret;exact ⟨rfl,z3⟩
 ·have hb:((l.length:Int) != (m.length:Int))=true:=by simp;omega
  have hz0:z=false:=by
   cases e:z with
   | false=>rfl
   | true=>exact absurd (congrArg List.length (hz.1 e)) hlen
  subst hz0;clear ha hc hla hlc hlen hz
  go_enter Tryz.func22,Tryz.ntmps22
  go_wp2_with fail;go_ret;exact ⟨rfl,z3⟩
theorem zs9 (v u:Value) (c:Cf) (s:Sc) (w0:World) (hr:z8I w0 v c) (hq:zqQ w0 u s) :
  Calls Tryz.prog 34 #[v,u] w0 (znV w0 emp (zez c∧s.steps≤200∧s.ar.length≤300∧s.tape.length≤300)):=by
 have hs:=Sat.start w0;have hG:=hid (fun (n:Int) (w:World) (h:Sat w0 w any)=>z9a v c n w (hr.later h));obtain ⟨ta,la,sa,qa,ma,tc,lc,sc,qc,mc,rfl,_,_,_,_,_⟩:=hr.form;obtain ⟨aa,ac,ta2,tc2,rfl,_,_⟩:=hq;obtain ⟨st,A,T⟩:=s;clear hr;dsimp only;have k3:∃ b3:Bool,decide (300<A.length)=b3∧decide ((300:Int)<(A.length:Int))=b3∧(b3=false→A.length≤300):=⟨_,rfl,by simp;omega,fun h=>by simpa using h⟩;have k4:∃ b4:Bool,decide (300<T.length)=b4∧decide ((300:Int)<(T.length:Int))=b4∧(b4=false→T.length≤300):=⟨_,rfl,by simp;omega,fun h=>by simpa using h⟩;obtain ⟨b3,d3,e3,H3⟩:=k3;obtain ⟨b4,d4,e4,H4⟩:=k4;have H3:=hid H3;have H4:=hid H4
 cases b3<;>cases b4
 all_goals
  go_enter Tryz.func34,Tryz.ntmps34
  go_wp2_with fail
  all_goals
   refine (hG.out _ _ z3).mono ?_;rintro en w1 ⟨z,rfl,hp,hz⟩;have hs1:=Sat.past (w0:=w0) z6 hp;have Hz:=hid hz;clear hp hs hz
   cases z
   all_goals
    go_wp2_with fail;go_ret
    first
     | exact ⟨true,rfl,z3,fun h=>by cases h⟩
     | exact ⟨false,rfl,z3,fun _=>⟨(Hz.out (by trivial)).1,by have:=(Hz.out (by trivial)).2;omega,H3.out (by trivial),H4.out (by trivial)⟩⟩
theorem zsu {P:Program} {ops:Array Oper} {rest:List Oper} {op:Oper} {a:Act} {w0 w:World} {Q:Exit→Act→World→Prop} {b o:Nat} {cells:List Value} {F:HP} {ty:TypeId} {x:Operand} {d:TypeDesc} (hw:Region.wanted op (yielded ops a.tmps)=true) (ho:op.op=.load ty x) (hx:a.eval x=.pointer (some ⟨b,o,none⟩)) (hs:Sat w0 w (pts b o cells*F))
  (hu : P.underlying ty = some d) (hd : d.isRow = true) (hi : (P.info? ty).map (·.size) = some cells.length)
  (h:wpList P ops Q rest (a.put op.dst (.agg cells.toArray)) w):wpList P ops Q (op::rest) a w:=by
 simp only [wpList,hw,if_true];exact .inl (Go.wp_load_mid ty x ho b o hx cells d hs.range hu hd hi h)
theorem zpS {P:Program} {l:List Oper} {S:World→Prop} {Q:Exit→Act→World→Prop} {rest:List (Nat×Bool)} {i:Nat} {op:Oper} {a:Act} {w0 w:World} {b o:Nat} {cells:List Value} {F:HP} {ty:TypeId} {x:Operand} {d:TypeDesc} (hi0:l[i]?=some op) (hw:Region.wanted op (yielded l.toArray a.tmps)=true) (ho:op.op=.load ty x) (hx:a.eval x=.pointer (some ⟨b,o,none⟩)) (hS:∀ w,S w→Sat w0 w (pts b o cells*F))
  (hu : P.underlying ty = some d) (hd : d.isRow = true) (hi : (P.info? ty).map (·.size) = some cells.length)
  (h:z3l P l.toArray Q S rest (a.put op.dst (.agg cells.toArray)) w):z3l P l.toArray Q S ((i,true)::rest) a w:=zf fun Kz hK=>by
 rw [hi0];dsimp only;rw [if_pos hw];refine ⟨.agg cells.toArray,fun w hSw=>?_,hK _ h⟩;unfold execOp;simp only [ho,hx,Instr.loadAt,Instr.sureAddr,Sem.run_bind,Sem.run_pure,Result.andThen_ok,run_loadVar_mid w b o ty cells d (hS w hSw).range hu hd hi]
theorem zsB {n:Int} (h:(Lit.int .i64 n).wf=true):-9223372036854775808≤n∧n≤9223372036854775807:=by
 have h1:(decide (-9223372036854775808≤n) && decide (n≤9223372036854775807))=true:=h;simp only [Bool.and_eq_true,decide_eq_true_eq] at h1;exact ⟨by omega,by omega⟩
theorem zsz {w0 w:World} {P X:HP} {a b:Value} {L:List Ev} {s:Sn} (h:Sat w0 w ((z7 a L*(stP b s*P))*X)):Sat w0 w (stP b s*(z7 a L*(P*X))):=h.perm (by ac_rfl)
theorem zss (v0:Value) (c0:Cf) (v1:Value) (s0:Sc) (v2:Value) (l2:List Int) (w0:World) (h0:z8I w0 v0 c0) (k0:z6B c0) (h1:zqQ w0 v1 s0) (k1:∀ x∈s0.tape,zG x) (h2:RdN .i64 w0 v2 l2) (k2:∀ n∈l2,(Lit.int .i64 n).wf=true) (hT:Tab w0) :
  Calls Tryz.prog 7 #[v0,v1,v2] w0 (zp w0 (.bool true) emp):=by
 have hs:=Sat.start w0;have hAw:=hid (fun (w:World) (h:Sat w0 w any)=>zr9 w (hT.later h));have hLg:=hid (fun (w:World) (h:Sat w0 w any)=>zs9 v0 v1 c0 s0 w (h0.later h) (h1.later h));have hRe:=hid (fun (he:wdE c0 s0≠0) (w:World) (h:Sat w0 w any)=>zs3 v0 v1 c0 s0 k0 w (h0.later h) (h1.later h) he);have hRn:=hid (fun (he:wdE c0 s0=0) (w:World) (h:Sat w0 w any)=>zse v0 v1 c0 s0 k0 w (hT.later h) (h0.later h) (h1.later h) k1 he);have hNe:=hid (fun (he:wdE c0 s0≠0) (w:World) (h:Sat w0 w any)=>zrn v0 v1 c0 s0 k0 w (h0.later h) (h1.later h) he);have hNn:=hid (fun (he:wdE c0 s0=0) (w:World) (h:Sat w0 w any)=>zsd v0 v1 c0 s0 k0 w (h0.later h) (h1.later h) (zs1 he).1 (zs1 he).2);have K1:=hid k1;have K0:=hid k0;have K2:=hid k2;have HT:=hid hT;obtain ⟨ta,la,sa,qa,ma,tc,lc,sc,qc,mc,rfl,_,_,_,_,_⟩:=h0.form;obtain ⟨aa,ac,ta2,tc2,rfl,_,_⟩:=h1;obtain ⟨na,nc,nb,no,rfl,_,hbig,ha,hc⟩:=h2;have Ha:=hid ha;have Hc:=hid hc;unfold maxLen at hbig;have u40:l2.length≤40∨40<l2.length:=by omega
 clear h0 hT k1 k0 k2 ha hc
 rcases u40 with h40 | h40
 case inr =>
  have d1:decide (40<l2.length)=true:=decide_eq_true h40;have e1:decide ((40:Int)<(l2.length:Int))=true:=by simp;omega
  go_enter Tryz.func7,Tryz.ntmps7
  go_wp2_with fail;refine (hAw.out _ z3).mono ?_;rintro en w1 ⟨rfl,hp⟩;have hs1:=Sat.past (w0:=w0) z6 hp;clear hp hs;go_wp2_with fail;refine (hLg.out _ z3).mono ?_;rintro en w2 ⟨z,rfl,hp,hz⟩;have hs2:=Sat.past (w0:=w0) z6 hp;have Hz:=hid hz;clear hp hs1 hz
  cases z
  all_goals
   go_wp2_with fail;refine (hAw.out _ z3).mono ?_;rintro en w3 ⟨rfl,hp⟩;have hs3:=Sat.past (w0:=w0) z6 hp;clear hp hs2;go_wp2_with fail;go_ret;exact ⟨rfl,z3⟩
 case inl =>
  have d1:decide (40<l2.length)=false:=decide_eq_false (by omega);have e1:decide ((40:Int)<(l2.length:Int))=false:=by simp;omega
  go_enter Tryz.func7,Tryz.ntmps7
  go_wp2_with fail;refine (hAw.out _ z3).mono ?_;rintro en w1 ⟨rfl,hp⟩;have hs1:=Sat.past (w0:=w0) z6 hp;clear hp hs;go_wp2_with fail;refine (hLg.out _ z3).mono ?_;rintro en w2 ⟨z,rfl,hp,hz⟩;have hs2:=Sat.past (w0:=w0) z6 hp;have Hz:=hid hz;clear hp hs1 hz
  cases z
  case true =>
   go_wp2_with fail;refine (hAw.out _ z3).mono ?_;rintro en w3 ⟨rfl,hp⟩;have hs3:=Sat.past (w0:=w0) z6 hp;clear hp hs2;go_wp2_with fail;go_ret;exact ⟨rfl,z3⟩
  case false =>
   have Lg:=hid (Hz.out rfl);clear Hz
   by_cases he:wdE c0 s0=0
   case neg =>
    have hR:=hid (hRe.out he);have hN:=hid (hNe.out he);have q1:(wdE c0 s0 != 0)=true:=by simp [he]
    have q2:(wdE c0 s0 != wdE c0 s0)=false:=by simp
    clear he hRe hRn hNe hNn;generalize wdE c0 s0=e at *;obtain ⟨cz,hcz⟩:∃ cz:List Value,cz=zsP:=⟨_,rfl⟩;have hcl:cz.length=29:=by rw [hcz];rfl
    have hone : cz.all (·.oneCell') = true:=by rw [hcz];rfl
    have hrz:=hid (fun (w:World)=>(show zjC w (.agg cz.toArray) snZ by rw [hcz];exact zjo w));rw [← hcz] at hR;clear hcz;go_wp2_with fail;refine (hR.out _ z3).mono ?_;rintro en w3 ⟨rfl,hp⟩;have hs3:=Sat.over (w0:=w0) hs2 hp;clear hp hs2;go_wp2_with (first | (refine z09 (w0:=w0) (cells:=cz) (old:=zsP) rfl rfl rfl rfl Go.Sx.own (by rw [hcl];rfl) (by rw [hcl];kernel_rfl) hone ?_;intro w5 hs5));refine (hN.out _ z3).mono ?_;rintro en w6 ⟨rfl,hp⟩;have hs6:=Sat.past (w0:=w0) z6 hp;clear hp hs5 hs3;generalize w3.heap.size=eb at *;go_wp2_with (first | (refine zsu (w0:=w0) (b:=eb) (o:=0) (cells:=cz) (F:=any) (by rfl) rfl rfl z3 Tryz.underlying51 rfl (by rw [hcl];kernel_rfl) ?_));refine (zgi _ _ snZ snZ true (by simp) _ (hrz.out _) (zjo _)).mono ?_;rintro en w7 ⟨rfl,hp⟩;have hs7:=Sat.past (w0:=w0) z6 hp;clear hp hs6;go_wp2_with fail;go_ret;exact ⟨rfl,z3⟩
   case pos =>
    have hR:=hid (hRn.out he);have hN:=hid (hNn.out he);have hW:=zrI (z4E K0.out (zs1 he).1) (zs1 he).2 K1.out;obtain ⟨z1,z2,yz3,yz4,_⟩:=zqE (zs1 he).2;have hW:=hid hW;have F0:=hid (show (zqA c0 s0).done=0∧(zqA c0 s0).steps=s0.steps∧(zqA c0 s0).tape.length≤65536 from ⟨rfl,rfl,yz4⟩);have hNx:=hid (fun (g b:Nat) (y:Fx) (ta:Option Addr) (tc:Nat) (N:Nat) (n:Int) (hn:-9223372036854775808≤n∧n≤9223372036854775807) (w:World) (G:HP) (hs:Sat w0 w (wdP g b y c0 ta tc (Wd.run c0 N (zqA c0 s0))*G))=>zs2 g b y c0 ta tc _ (zrk N hW.out) (by rw [zr2];exact F0.out.2.2) n hn w0 w HT.out G hs);have hLf:=hid (fun (g b:Nat) (y:Fx) (ta:Option Addr) (tc:Nat) (N:Nat) (w:World) (G:HP) (hs:Sat w0 w (wdP g b y c0 ta tc (Wd.run c0 N (zqA c0 s0))*G))=>zsi g b y c0 ta tc _ w0 w G hs ⟨(zrk N hW.out).done,(zrk N hW.out).steps.2⟩);have hSt:=hid (fun (g b:Nat) (y:Fx) (ta:Option Addr) (tc:Nat) (N:Nat) (w:World) (G:HP) (hs:Sat w0 w (wdP g b y c0 ta tc (Wd.run c0 N (zqA c0 s0))*G))=>zrN g b y c0 ta tc _ (zrk N hW.out) w0 w G hs);have hLe:=hid (fun (N:Nat)=>(show (Wd.evs c0 N (zqA c0 s0)).length≤66000000∧((Wd.run c0 N (zqA c0 s0)).done:Int)=min (N:Int) s0.steps∧(Wd.run c0 N (zqA c0 s0)).steps=s0.steps by
     have h1:=zro N hW.out;have h2:=zrt c0 N (zqA c0 s0) hW.out.done;rw [F0.out.1,F0.out.2.1] at h2;refine ⟨?_,by rw [h2.1];simp,h2.2⟩;have:=h1.1;have:=h2.1;omega))
    have hFu:=hid (fun (n:Nat) (h:s0.steps≤n)=>zru c0 n s0.steps.toNat (zqA c0 s0) (by rw [F0.out.1,F0.out.2.1];simpa using h) (by rw [F0.out.1,F0.out.2.1];simp;omega));have hAd:=hid (fun m n=>zqT c0 m n (zqA c0 s0));clear he hRe hRn hNe hNn yz3 yz4 hW F0;go_wp2_with fail;refine (hR.out _ z3).mono ?_;rintro en w3 ⟨v3,rfl,hp⟩;obtain ⟨ev,sv,rfl,hp2⟩:=zqU (hp.perm (zz _).symm);have hs3:=Sat.over (w0:=w0) hs2 hp2;obtain ⟨ea,ec,rfl⟩:=hp2.slice_form;obtain ⟨cl,rfl,hcl,hone,hs5⟩:=zr3 (zsz hs3);clear hp hp2 hs3 hs2;obtain ⟨W,hW⟩:∃ X,X=zqA c0 s0:=⟨_,rfl⟩;rw [← hW] at hNx hLf hSt hLe hFu hAd hs5;have HW:=hid hW;clear hW;obtain ⟨L,hL⟩:∃ X,X=Wd.evs c0 s0.steps.toNat W:=⟨_,rfl⟩;obtain ⟨sn,hsn⟩:∃ X,X=(Wd.run c0 s0.steps.toNat W).K.st c0:=⟨_,rfl⟩;rw [← hL,← hsn] at hs5;rw [show Wd.evs c0 s0.steps.toNat (zqA c0 s0)=L by rw [hL,HW.out]];have HL:=hid hL;have Hsn:=hid hsn;clear hL hsn;go_wp2_with (first | (refine z09 (w0:=w0) (cells:=cl) (old:=zsP) rfl rfl rfl rfl Go.Sx.own (by rw [hcl];rfl) (by rw [hcl];kernel_rfl) hone ?_;intro w5 hs6));refine (hN.out _ z3).mono ?_;rintro en w6 ⟨v6,rfl,hp⟩;obtain ⟨g,b,y,ta3,tc3,rfl,hp2⟩:=zrJ (hp.perm (zz _).symm);rw [← HW.out] at hp2;have hs7:=Sat.over (w0:=w0) hs6 hp2;have hs8:Sat w0 w6 (wdP g b y c0 ta3 tc3 (Wd.run c0 0 W)*(pts w3.heap.size 0 cl*(stP (.agg cl.toArray) sn*(z7 (.slice ea L.length ec) L*any)))):=(show Sat w0 w6 (wdP g b y c0 ta3 tc3 W*(pts w3.heap.size 0 cl*(stP (.agg cl.toArray) sn*(z7 (.slice ea L.length ec) L*any)))) from z3 (hs:=hs7));clear hs7 hs6 hs5 hp hp2 HW;generalize w3.heap.size=eb at *;go_wp2_with fail;refine z9 (w0:=w0) ?_;intro w7 hs9;clear hs8
    go_loopw [12,63] (fun tv i wr=>∃ (k N:Nat) (oa:Option Addr) (oc:Nat) (T:List Ev),k≤l2.length∧Hid (T=Wd.evs c0 N W)∧tv=.slice oa T.length oc∧i=.int .i64 k∧Sat w0 wr (z7 (.slice oa T.length oc) T*(wdP g b y c0 ta3 tc3 (Wd.run c0 N W)*(pts eb 0 cl*(stP (.agg cl.toArray) sn*(z7 (.slice ea L.length ec) L*any)))))) (fun _ i _=>l2.length-(intOf i).toNat)
    case atStart=>exact ⟨0,0,none,0,[],Nat.zero_le _,hid rfl,rfl,rfl,by
     refine Sat.perm (P:=wdP g b y c0 ta3 tc3 (Wd.run c0 0 W)*(pts eb 0 cl*(stP (.agg cl.toArray) sn*(z7 (.slice ea L.length ec) L*any)))) z3 ?_;show _=z7 (α:=Ev) (.slice none 0 0) []*_;rw [z03,zm]⟩
    case round =>
     obtain ⟨k,N,oa,oc,T,hk,hT,rfl,rfl,hsr⟩:=hrel;clear hs9;have tle:T.length≤66000000:=by rw [hT.out];exact (hLe.out N).1
     by_cases hlt:k<l2.length
     ·have f3:decide (k<l2.length)=true:=decide_eq_true hlt;have i3:(k:Int)<(l2.length:Int):=by omega
      obtain rfl:=Ha.out (by intro h;simp [h] at hlt);have hc1:=Hc.out k hlt;have hx2:l2.getD k 0∈l2:=by
       have:l2.getD k 0=l2[k]:=by simp [List.getD,hlt]
       rw [this];exact List.getElem_mem hlt
      have hwf:=K2.out _ hx2;generalize l2.getD k 0=x at *;have hrng:=zsB hwf;haveI o1:Old w0 nb (no+k) (.int .i64 x):=⟨hc1⟩;have hX:=hid (fun (w:World) (G:HP) hs=>hNx.out g b y ta3 tc3 N x hrng w G hs);have hadd:=hid (hAd.out N x.toNat);have ele:(Wd.evs c0 x.toNat (Wd.run c0 N W)).length≤66000000:=by
       have h1:=(hLe.out (N+x.toNat)).1;rw [hadd.out.2,List.length_append] at h1;omega
      obtain ⟨E,hE⟩:∃ E,E=Wd.evs c0 x.toNat (Wd.run c0 N W):=⟨_,rfl⟩;rw [← hE] at hX ele hadd;clear hc1 hx2 hwf hrng hlt hE;go_wp2_with fail;refine (hX.out _ _ Go.Sx.own).mono ?_;rintro en w8 ⟨v8,rfl,hs10⟩;obtain ⟨va,vc,rfl⟩:=hs10.slice_form;clear hsr;go_wp2_with (at_builtin;refine zA rfl rfl rfl rfl (by omega) ?_;intro ap ac3 aL aw ahL ah1 ah2 ahs _);clear hs10;go_roundw
      case rel =>
       refine ⟨k+1,N+x.toNat,ap,ac3,aL,by omega,hid (by rw [ahL,hadd.out.2,hT.out]),rfl,by go_num,?_⟩;rw [hadd.out.1];exact z3
      case measure=>simp [intOf];omega
     ·have hkl:k=l2.length:=by omega
      subst hkl;have f3:decide (l2.length<l2.length)=false:=by simp
      obtain ⟨W1,hW1⟩:∃ X,X=Wd.run c0 N W:=⟨_,rfl⟩;obtain ⟨m,hm⟩:∃ m:Nat,m=(W1.steps-W1.done).toNat:=⟨_,rfl⟩;obtain ⟨W2,hW2⟩:∃ X,X=Wd.run c0 s0.steps.toNat W:=⟨_,rfl⟩;obtain ⟨E,hE⟩:∃ E,E=Wd.evs c0 m W1:=⟨_,rfl⟩;have q:=hLe.out N;rw [← hW1] at q;have qm:(m:Int)=W1.steps-W1.done:=by omega
      have hX:=hid (fun (w:World) (G:HP) hs=>hNx.out g b y ta3 tc3 N (W1.steps-W1.done) (by omega) w G hs);have hF:=hid (fun (w:World) (G:HP) hs=>hLf.out g b y ta3 tc3 N w G hs);have q2:=hFu.out (N+m) (by omega);have q3:=hAd.out N m;rw [q2.1,q2.2,← hW1,← hW2,← HL.out,← hE,← hT.out] at q3;have hTE:=hid q3.2;have ele:E.length≤66000000:=by
       have h1:=(hLe.out s0.steps.toNat).1;rw [← HL.out,q3.2,List.length_append] at h1;omega
      have hX2:=hid (fun (w:World) (G:HP) hs=>hNx.out g b y ta3 tc3 s0.steps.toNat 5 (by omega) w G hs);have hF2:=hid (fun (w:World) (G:HP) hs=>hLf.out g b y ta3 tc3 s0.steps.toNat w G hs);have hS2:=hid (fun (w:World) (G:HP) hs=>hSt.out g b y ta3 tc3 s0.steps.toNat w G hs);have q5:=hLe.out s0.steps.toNat;have q6:(Wd.run c0 s0.steps.toNat W).steps-(Wd.run c0 s0.steps.toNat W).done=0:=by omega
      obtain ⟨q7,q8⟩:=zq8 (c:=c0) (w:=Wd.run c0 s0.steps.toNat W) (by omega) (5:Int).toNat;rw [q6] at hF2;rw [q7,q8] at hX2;rw [← Hsn.out] at hS2;rw [← hW2] at hX2 hF2 hS2;rw [← hm,← hW1,← hE,← q3.1] at hX;rw [← hW1] at hF hsr;have hSa:=hid (fun (oa:Option Addr) (oc:Nat) (w:World) (h:Sat w0 w (z7 (.slice oa L.length oc) L*any)) (h2:Sat w0 w (z7 (.slice ea L.length ec) L*any))=>zs5 _ _ L L true (by simp) w h.rdR h2.rdR);have hSb:=hid (fun (v:Value) (w:World) (h:Sat w0 w (stP v sn*any)) (h2:Sat w0 w (stP (.agg cl.toArray) sn*any))=>zgi v _ sn sn true (by simp) w (zsg h) (zsg h2));generalize W1.steps-(W1.done:Int)=lf at *;clear q q2 q3 q5 q6 q7 q8 hm hW1 hW2 hE hNx hLf hSt hLe hFu hAd HL Hsn hT hk hlt qm;go_wp2_with fail;refine (hF.out _ _ Go.Sx.own).mono ?_;rintro en w8 ⟨rfl,hs10⟩;clear hsr;go_wp2_with fail;refine (hX.out _ _ Go.Sx.own).mono ?_;rintro en w9 ⟨v9,rfl,hs11⟩;obtain ⟨va,vc,rfl⟩:=hs11.slice_form;clear hs10;go_wp2_with (at_builtin;refine zA rfl rfl rfl rfl (by omega) ?_;intro ap ac3 aL aw ahL ah1 ah2 ahs _);clear hs11;obtain rfl:aL=L:=by rw [ahL,hTE.out]
      refine z9 (w0:=w0) ?_;intro w10 hs12;clear ahs;refine zj (fun w'=>Sat w0 w' (pts eb 0 cl*any)) [(0,true),(1,true),(2,false),(3,true),(4,true),(6,true),(5,false),(7,false),(8,true),(9,true),(10,true),(11,false),(12,true),(13,true),(14,true),(15,true),(16,false),(17,true),(18,true),(19,true),(20,true)] (by kernel_rfl) (by kernel_rfl) (fun _ _ _ _ h=>h) z3 ?_
      iterate 2 ((first | (refine zpI rfl (by rfl) ?_;apply Exists.intro;refine ⟨fun w hSw=>?_,?_⟩;focus ((try dsimp only at hSw);go_simp;try with_reducible rfl)) | refine zpH rfl (by rfl) ?_);simp only [Act.put,Go.zqA,Go.zqP,Go.zqQ])
      refine z29 rfl (by rfl) (fun K hK=>?_);go_wp2_with fail;refine (hSa.out _ _ _ z3 z3).mono ?_;rintro en w11 ⟨rfl,hp⟩;have hs13:=Sat.past (w0:=w0) z6 hp;clear hp hs12;go_wp2_with fail;refine ⟨z3,?_⟩
      iterate 2 ((first | (refine zpI rfl (by rfl) ?_;apply Exists.intro;refine ⟨fun w hSw=>?_,?_⟩;focus ((try dsimp only at hSw);go_simp;try with_reducible rfl)) | refine zpH rfl (by rfl) ?_);simp only [Act.put,Go.zqA,Go.zqP,Go.zqQ])
      refine zpS (w0:=w0) (b:=eb) (o:=0) (cells:=cl) (F:=any) rfl rfl rfl rfl (fun _ h=>z3 (hs:=h)) Tryz.underlying51 rfl (by rw [hcl];kernel_rfl) ?_;refine z29 rfl (by rfl) (fun K hK=>?_);go_wp2_with fail;refine (hS2.out _ _ Go.Sx.own).mono ?_;rintro en w12 ⟨v12,rfl,hs14⟩;clear hs13;go_wp2_with fail;refine ⟨z3,?_⟩;refine z29 rfl (by rfl) (fun K hK=>?_);go_wp2_with fail;refine (hSb.out _ _ z3 z3).mono ?_;rintro en w13 ⟨rfl,hp⟩;have hs15:=Sat.past (w0:=w0) hs14 hp;clear hp hs14;go_wp2_with fail;refine ⟨z3,?_⟩
      iterate 3 ((first | (refine zpI rfl (by rfl) ?_;apply Exists.intro;refine ⟨fun w hSw=>?_,?_⟩;focus ((try dsimp only at hSw);go_simp;try with_reducible rfl)) | refine zpH rfl (by rfl) ?_);simp only [Act.put,Go.zqA,Go.zqP,Go.zqQ])
      refine z29 rfl (by rfl) (fun K hK=>?_);go_wp2_with fail;refine (hF2.out _ _ Go.Sx.own).mono ?_;rintro en w14 ⟨rfl,hs16⟩;clear hs15;go_wp2_with fail;refine ⟨z3,?_⟩
      iterate 4 ((first | (refine zpI rfl (by rfl) ?_;apply Exists.intro;refine ⟨fun w hSw=>?_,?_⟩;focus ((try dsimp only at hSw);go_simp;try with_reducible rfl)) | refine zpH rfl (by rfl) ?_);simp only [Act.put,Go.zqA,Go.zqP,Go.zqQ])
      refine z29 rfl (by rfl) (fun K hK=>?_);go_wp2_with fail;refine (hX2.out _ _ Go.Sx.own).mono ?_;rintro en w15 ⟨v15,rfl,hs17⟩;obtain ⟨xa,xc,rfl⟩:=hs17.slice_form;clear hs16;go_wp2_with fail;refine ⟨z3,?_⟩
      iterate 4 ((first | (refine zpI rfl (by rfl) ?_;apply Exists.intro;refine ⟨fun w hSw=>?_,?_⟩;focus ((try dsimp only at hSw);go_simp;try with_reducible rfl)) | refine zpH rfl (by rfl) ?_);simp only [Act.put,Go.zqA,Go.zqP,Go.zqQ])
      refine zB ?_;go_wp2_with fail;go_ret;exact ⟨rfl,z3⟩
end Go.Proofs.YtlbjjoeocdimfaaGreatDoor
