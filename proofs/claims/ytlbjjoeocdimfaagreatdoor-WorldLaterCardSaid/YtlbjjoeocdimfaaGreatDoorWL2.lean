/-
  Parts of the proof: SameD Great WorldF WorldH WorldB WorldK WorldN WorldO.
-/
import Derived.Test.YtlbjjoeocdimfaaGreatDoorKD5
import Derived.Test.YtlbjjoeocdimfaaGreatDoorKD9
import Derived.Test.YtlbjjoeocdimfaaGreatDoorKD13
import Derived.Test.YtlbjjoeocdimfaaGreatDoorKD15
import Derived.Test.YtlbjjoeocdimfaaGreatDoorKD18
import Derived.Test.YtlbjjoeocdimfaaGreatDoorWL0
import Derived.Test.YtlbjjoeocdimfaaGreatDoorWL1
set_option linter.unusedVariables false
set_option linter.unusedSimpArgs false
set_option maxHeartbeats 32000000
set_option maxRecDepth 100000
namespace Go.Proofs.YtlbjjoeocdimfaaGreatDoor
open Go.RowKit Go.Sx Go.Dl Go.Lk Go.Rq Go.Au
theorem zmw {w0 w:World} {s:Sn} {y:Sv} {F:HP} (hs:Sat w0 w (stH y s*F)):zjC w (.agg (stL s y).toArray) s:=by
 unfold stH at hs;have h1:=hs.perm (zb _ _ _);have h2:=h1.drop.perm (zb _ _ _);have h3:=h2.drop.perm (zb _ _ _);have h4:=h3.drop.perm (zb _ _ _);have h5:=h4.drop.perm (zb _ _ _);have h6:=h5.drop.perm (zb _ _ _);have h7:=h6.drop.perm (zb _ _ _);have h8:=h7.drop.perm (zb _ _ _);have h9:=h8.drop.perm (zb _ _ _);have h10:=h9.drop.perm (zb _ _ _);have h11:=h10.drop.perm (zb _ _ _);exact ⟨y,rfl,h1.rdN,z4T h2,zmx h3,z4T h4,h5.rdN,z4T h6,h7.rdN,z4T h8,z4T h9,z4T h10,z4T h11,h11.drop.rdR⟩
structure zez (c:Cf):Prop where
 t:c.ts.length≤70
 l:c.ls.length≤20
 s:c.sems.length≤40
 q:c.queues.length≤40
 m:c.timers.length≤40
 tc:∀ t,t<c.ts.length→(tcg c t).code.length≤300
 lc:∀ t,t<c.ls.length→(lcg c t).code.length≤300
def znV (w0:World) (P:HP) (Q:Prop) (e:Ending) (w':World):Prop:=∃ z:Bool,e=.returned (.bool z)∧Sat w0 w' P∧(z=false→Q)
theorem zik (v:Value) (c:Cf) (w0:World) (hr:z8I w0 v c) :
  Calls Tryz.prog 49 #[v] w0 (znV w0 emp (zez c)):=by
 have hs:=Sat.start w0;obtain ⟨tv,lv,sv,qv,mv,rfl,⟨T,hT,hTn,hTi⟩,⟨L,hL,hLn,hLi⟩,hS,hQ,hM⟩:=hr.out;clear hr;obtain ⟨sa,scap,_,_,rfl,_⟩:=hS;obtain ⟨qa,qcap,_,_,rfl,_⟩:=hQ;obtain ⟨ma,mcap,_,_,rfl,_⟩:=hM;obtain ⟨ta,tcap,tg,tto,rfl,_,_,hta,htc⟩:=hT;obtain ⟨la,lcap,lg',lo,rfl,_,_,hla,hlc⟩:=hL;rw [hTn,hLn];have Hta:=hid hta;have Htc:=hid htc;have Hla:=hid hla;have Hlc:=hid hlc;have HTn:=hid hTn;have HLn:=hid hLn;have HTi:=hid hTi;have HLi:=hid hLi;clear hta htc hla hlc hTn hLn hTi hLi
 by_cases g1:70<c.ts.length
 ·have d1:decide (70<c.ts.length)=true:=decide_eq_true g1;have d2:decide ((70:Int)<(c.ts.length:Int))=true:=by simp;omega
  clear g1
  go_enter Tryz.func49,Tryz.ntmps49
  go_wp2_with fail;go_ret;exact ⟨true,rfl,z3,fun h=>by cases h⟩
 have d1:decide (70<c.ts.length)=false:=decide_eq_false g1;have e1:decide ((70:Int)<(c.ts.length:Int))=false:=by simp;omega
 by_cases g2:20<c.ls.length
 ·have d2:decide (20<c.ls.length)=true:=decide_eq_true g2;have e2:decide ((20:Int)<(c.ls.length:Int))=true:=by simp;omega
  go_enter Tryz.func49,Tryz.ntmps49
  go_wp2_with fail;go_ret;exact ⟨true,rfl,z3,fun h=>by cases h⟩
 have d2:decide (20<c.ls.length)=false:=decide_eq_false g2;have e2:decide ((20:Int)<(c.ls.length:Int))=false:=by simp;omega
 by_cases g3:40<c.sems.length
 ·have d3:decide (40<c.sems.length)=true:=decide_eq_true g3;have e3:decide ((40:Int)<(c.sems.length:Int))=true:=by simp;omega
  go_enter Tryz.func49,Tryz.ntmps49
  go_wp2_with fail;go_ret;exact ⟨true,rfl,z3,fun h=>by cases h⟩
 have d3:decide (40<c.sems.length)=false:=decide_eq_false g3;have e3:decide ((40:Int)<(c.sems.length:Int))=false:=by simp;omega
 by_cases g4:40<c.queues.length
 ·have d4:decide (40<c.queues.length)=true:=decide_eq_true g4;have e4:decide ((40:Int)<(c.queues.length:Int))=true:=by simp;omega
  go_enter Tryz.func49,Tryz.ntmps49
  go_wp2_with fail;go_ret;exact ⟨true,rfl,z3,fun h=>by cases h⟩
 have d4:decide (40<c.queues.length)=false:=decide_eq_false g4;have e4:decide ((40:Int)<(c.queues.length:Int))=false:=by simp;omega
 by_cases g5:40<c.timers.length
 ·have d5:decide (40<c.timers.length)=true:=decide_eq_true g5;have e5:decide ((40:Int)<(c.timers.length:Int))=true:=by simp;omega
  go_enter Tryz.func49,Tryz.ntmps49
  go_wp2_with fail;go_ret;exact ⟨true,rfl,z3,fun h=>by cases h⟩
 have d5:decide (40<c.timers.length)=false:=decide_eq_false g5;have e5:decide ((40:Int)<(c.timers.length:Int))=false:=by simp;omega
 go_enter Tryz.func49,Tryz.ntmps49
 go_wp2_with fail;refine z9 (w0:=w0) ?_;intro ww hsw;clear hs
 go_loopw [3,4] (fun nv i wr=>∃ k n:Nat,k≤c.ts.length∧n≤300*k∧nv=.int .i64 n∧i=.int .i64 k∧(∀ j,j<k→(tcg c j).code.length≤300)∧Sat w0 wr (pts w0.heap.size 0 [.slice ta c.ts.length tcap,.slice la c.ls.length lcap,.int .i64 c.mutexes,.slice sa c.sems.length scap,.slice qa c.queues.length qcap,.slice ma c.timers.length mcap,.int .i64 c.table,.int .u32 c.mask,.int .u32 c.filter,.int .i64 c.charge,.int .u64 c.cycle,.int .u64 c.count]*any)) (fun _ i _=>c.ts.length-(intOf i).toNat)
 case atStart=>exact ⟨0,0,Nat.zero_le _,Nat.zero_le _,rfl,rfl,fun j hj=>absurd hj (by omega),z3⟩
 case round =>
  obtain ⟨k,n,hk,hn,rfl,rfl,hb,hsr⟩:=hrel;clear hsw;have Hb:=hid hb;clear hb
  by_cases hlt:k<c.ts.length
  ·have f3:decide (k<c.ts.length)=true:=decide_eq_true hlt;have i3:(k:Int)<(c.ts.length:Int):=by omega
   have hTl:=HTn.out;obtain rfl:=Hta.out (by intro h;simp [h] at hTl;omega);have hit:=HTi.out k hlt;obtain ⟨u,hu⟩:∃ u,u=T.getD k tv0:=⟨_,rfl⟩;have oc:∀ c' y,c'<6→(z8Q.enc u)[c']?=some y→w0.cell? ⟨tg,tto+k*6+c',none⟩=some y:=fun c' y hc6 he=>z2i Htc.out (by omega) hc6 (by show (z8Q.enc (T.getD k tv0))[c']?=some y;rw [← hu];exact he);rw [← hu] at hit;have hcl:u.cn=(tcg c k).code.length:=hit.code.caps.1;haveI o5:Old w0 tg (tto+k*6+5) (.slice u.ca u.cn u.cc):=⟨oc 5 _ (by decide) rfl⟩;clear oc hu hTl hit
   by_cases hz0:300<u.cn
   ·have f4:decide (300<u.cn)=true:=decide_eq_true hz0;have i4:decide ((300:Int)<(u.cn:Int))=true:=by simp;omega
    clear hcl;go_wp2_with fail;go_ret;exact ⟨true,rfl,z3,fun h=>by cases h⟩
   ·have f4:decide (300<u.cn)=false:=decide_eq_false hz0;have i4:decide ((300:Int)<(u.cn:Int))=false:=by simp;omega
    have hb2:Hid (∀ j,j<k+1→(tcg c j).code.length≤300):=hid fun j hj=>by
     rcases Nat.lt_or_ge j k with h | h
     ·exact Hb.out j h
     ·obtain rfl:j=k:=by omega
      omega
    clear hcl;go_wp2_with fail;go_roundw
    case rel=>exact ⟨k+1,n+u.cn,by omega,by omega,by go_num,by go_num,hb2.out,z3⟩
    case measure=>simp [intOf];omega
  ·have hkl:k=c.ts.length:=by omega
   subst hkl;have f3:decide (c.ts.length<c.ts.length)=false:=by simp
   clear hlt hk;go_wp2_with fail;refine z9 (w0:=w0) ?_;intro w3 hs3;clear hsr
   go_loopw [3,5] (fun nv i wr=>∃ k n:Nat,k≤c.ls.length∧n≤300*70+300*k∧nv=.int .i64 n∧i=.int .i64 k∧(∀ j,j<k→(lcg c j).code.length≤300)∧Sat w0 wr (pts w0.heap.size 0 [.slice ta c.ts.length tcap,.slice la c.ls.length lcap,.int .i64 c.mutexes,.slice sa c.sems.length scap,.slice qa c.queues.length qcap,.slice ma c.timers.length mcap,.int .i64 c.table,.int .u32 c.mask,.int .u32 c.filter,.int .i64 c.charge,.int .u64 c.cycle,.int .u64 c.count]*any)) (fun _ i _=>c.ls.length-(intOf i).toNat)
   case atStart=>exact ⟨0,n,Nat.zero_le _,by omega,rfl,rfl,fun j hj=>absurd hj (by omega),z3⟩
   case round =>
    obtain ⟨k,n,hk,hn,rfl,rfl,hb,hsr⟩:=hrel;clear hs3;have Hb2:=hid hb;clear hb
    by_cases hlt:k<c.ls.length
    ·have f3:decide (k<c.ls.length)=true:=decide_eq_true hlt;have i3:(k:Int)<(c.ls.length:Int):=by omega
     have hLl:=HLn.out;obtain rfl:=Hla.out (by intro h;simp [h] at hLl;omega);have hit:=HLi.out k hlt;obtain ⟨u,hu⟩:∃ u,u=L.getD k lv0:=⟨_,rfl⟩;have oc:∀ c' y,c'<2→(z8P.enc u)[c']?=some y→w0.cell? ⟨lg',lo+k*2+c',none⟩=some y:=fun c' y hc6 he=>z2i Hlc.out (by omega) hc6 (by show (z8P.enc (L.getD k lv0))[c']?=some y;rw [← hu];exact he);rw [← hu] at hit;have hcl:u.cn=(lcg c k).code.length:=hit.code.caps.1;haveI o5:Old w0 lg' (lo+k*2+1) (.slice u.ca u.cn u.cc):=⟨oc 1 _ (by decide) rfl⟩;clear oc hu hLl hit
     by_cases hz0:300<u.cn
     ·have f4:decide (300<u.cn)=true:=decide_eq_true hz0;have i4:decide ((300:Int)<(u.cn:Int))=true:=by simp;omega
      clear hcl;go_wp2_with fail;go_ret;exact ⟨true,rfl,z3,fun h=>by cases h⟩
     ·have f4:decide (300<u.cn)=false:=decide_eq_false hz0;have i4:decide ((300:Int)<(u.cn:Int))=false:=by simp;omega
      have hb2:Hid (∀ j,j<k+1→(lcg c j).code.length≤300):=hid fun j hj=>by
       rcases Nat.lt_or_ge j k with h | h
       ·exact Hb2.out j h
       ·obtain rfl:j=k:=by omega
        omega
      clear hcl;go_wp2_with fail;go_roundw
      case rel=>exact ⟨k+1,n+u.cn,by omega,by omega,by go_num,by go_num,hb2.out,z3⟩
      case measure=>simp [intOf];omega
    ·have hkl:k=c.ls.length:=by omega
     subst hkl;have f3:decide (c.ls.length<c.ls.length)=false:=by simp
     clear hlt hk;go_wp2_with fail;go_ret;exact ⟨_,rfl,z3,fun _=>⟨by omega,by omega,by omega,by omega,by omega,Hb.out,Hb2.out⟩⟩
theorem z9a (v:Value) (c:Cf) (n:Int) (w0:World) (hr:z8I w0 v c) :
  Calls Tryz.prog 13 #[v,.int .i64 n] w0 (znV w0 emp (zez c∧n≤200)):=by
 have hs:=Sat.start w0;have hA:=hid (fun (w:World) (h:Sat w0 w any)=>zik v c w (hr.later h));obtain ⟨tv,lv,sv,qv,mv,rfl,⟨T,hT,hTn,hTi⟩,⟨L,hL,hLn,hLi⟩,hS,hQ,hM⟩:=hr.out;clear hr;obtain ⟨sa,scap,_,_,rfl,_⟩:=hS;obtain ⟨qa,qcap,_,_,rfl,_⟩:=hQ;obtain ⟨ma,mcap,_,_,rfl,_⟩:=hM;obtain ⟨ta,tcap,tg,tto,rfl,_,_,hta,htc⟩:=hT;obtain ⟨la,lcap,lg',lo,rfl,_,_,hla,hlc⟩:=hL;rw [hTn,hLn] at hA;rw [hTn,hLn];have Hta:=hid hta;have Htc:=hid htc;have Hla:=hid hla;have Hlc:=hid hlc;have HTn:=hid hTn;have HLn:=hid hLn;have HTi:=hid hTi;have HLi:=hid hLi;clear hta htc hla hlc hTn hLn hTi hLi
 go_enter Tryz.func13,Tryz.ntmps13
 go_wp2_with fail;refine (hA.out _ z3).mono ?_;rintro en w1 ⟨z,rfl,hs1,hz⟩;have hs2:=Sat.past (w0:=w0) z6 hs1;have Hz:=hid hz;clear hs1 hs hz hA
 cases z
 case true =>
  go_wp2_with fail;go_ret;exact ⟨true,rfl,z3,fun h=>by cases h⟩
 case false =>
  have hp:=Hz.out rfl;have g1:=hp.t;have g2:=hp.l;have Hp:=hid hp;clear hp Hz;go_wp2_with fail;refine z9 (w0:=w0) ?_;intro ww hsw;clear hs2
  go_loopw [5,15] (fun nv i wr=>∃ k m:Nat,k≤c.ts.length∧m≤1000*k∧nv=.int .i64 m∧i=.int .i64 k∧Sat w0 wr (pts w0.heap.size 0 [.slice ta c.ts.length tcap,.slice la c.ls.length lcap,.int .i64 c.mutexes,.slice sa c.sems.length scap,.slice qa c.queues.length qcap,.slice ma c.timers.length mcap,.int .i64 c.table,.int .u32 c.mask,.int .u32 c.filter,.int .i64 c.charge,.int .u64 c.cycle,.int .u64 c.count]*any)) (fun _ i _=>c.ts.length-(intOf i).toNat)
  case atStart=>exact ⟨0,0,Nat.zero_le _,Nat.zero_le _,rfl,rfl,z3⟩
  case round =>
   obtain ⟨k,m,hk,hm,rfl,rfl,hsr⟩:=hrel;clear hsw
   by_cases hlt:k<c.ts.length
   ·have f3:decide (k<c.ts.length)=true:=decide_eq_true hlt;have i3:(k:Int)<(c.ts.length:Int):=by omega
    have hTl:=HTn.out;obtain rfl:=Hta.out (by intro h;simp [h] at hTl;omega);obtain ⟨u,hu⟩:∃ u,u=T.getD k tv0:=⟨_,rfl⟩;have oc:∀ c' y,c'<6→(z8Q.enc u)[c']?=some y→w0.cell? ⟨tg,tto+k*6+c',none⟩=some y:=fun c' y hc6 he=>z2i Htc.out (by omega) hc6 (by show (z8Q.enc (T.getD k tv0))[c']?=some y;rw [← hu];exact he);haveI o0:Old w0 tg (tto+k*6) (.int .i64 u.lev):=⟨oc 0 _ (by decide) rfl⟩;haveI o1:Old w0 tg (tto+k*6+1) (.int .i64 u.off):=⟨oc 1 _ (by decide) rfl⟩;haveI o2:Old w0 tg (tto+k*6+2) (.int .i64 u.per):=⟨oc 2 _ (by decide) rfl⟩;haveI o3:Old w0 tg (tto+k*6+3) (.int .i64 u.dl):=⟨oc 3 _ (by decide) rfl⟩;haveI o4:Old w0 tg (tto+k*6+4) (.int .i64 u.mem):=⟨oc 4 _ (by decide) rfl⟩;haveI o5:Old w0 tg (tto+k*6+5) (.slice u.ca u.cn u.cc):=⟨oc 5 _ (by decide) rfl⟩;clear oc hu hTl;have hq:∀ x:Int,0≤(if 1000<(if x<0 then 0 else x) then 1000 else if x<0 then 0 else x)∧(if 1000<(if x<0 then 0 else x) then 1000 else if x<0 then 0 else x)≤1000:=fun x=>by split<;>split<;>omega
    have Hq:=hid (hq u.mem);clear hq;go_wp2_with fail;have Hq:=Hq.out;generalize (if 1000<(if u.mem<0 then 0 else u.mem) then (1000:Int) else if u.mem<0 then 0 else u.mem)=q at *;obtain ⟨q,rfl⟩:=Int.eq_ofNat_of_zero_le Hq.1;refine ⟨⟨k+1,m+q,by omega,by omega,by go_num,by go_num,z3⟩,?_⟩;simp [intOf];omega
   ·have hkl:k=c.ts.length:=by omega
    subst hkl;have f3:decide (c.ts.length<c.ts.length)=false:=by simp
    clear hlt hk;go_wp2_with fail;refine z9 (w0:=w0) ?_;intro w3 hs3;clear hsr
    go_loopw [5,29] (fun nv i wr=>∃ k m:Nat,k≤c.ls.length∧m≤70000+1000*k∧nv=.int .i64 m∧i=.int .i64 k∧Sat w0 wr (pts w0.heap.size 0 [.slice ta c.ts.length tcap,.slice la c.ls.length lcap,.int .i64 c.mutexes,.slice sa c.sems.length scap,.slice qa c.queues.length qcap,.slice ma c.timers.length mcap,.int .i64 c.table,.int .u32 c.mask,.int .u32 c.filter,.int .i64 c.charge,.int .u64 c.cycle,.int .u64 c.count]*any)) (fun _ i _=>c.ls.length-(intOf i).toNat)
    case atStart=>exact ⟨0,m,Nat.zero_le _,by omega,rfl,rfl,z3⟩
    case round =>
     obtain ⟨k,m,hk,hm,rfl,rfl,hsr⟩:=hrel;clear hs3
     by_cases hlt:k<c.ls.length
     ·have f3:decide (k<c.ls.length)=true:=decide_eq_true hlt;have i3:(k:Int)<(c.ls.length:Int):=by omega
      have hLl:=HLn.out;obtain rfl:=Hla.out (by intro h;simp [h] at hLl;omega);obtain ⟨u,hu⟩:∃ u,u=L.getD k lv0:=⟨_,rfl⟩;have oc:∀ c' y,c'<2→(z8P.enc u)[c']?=some y→w0.cell? ⟨lg',lo+k*2+c',none⟩=some y:=fun c' y hc6 he=>z2i Hlc.out (by omega) hc6 (by show (z8P.enc (L.getD k lv0))[c']?=some y;rw [← hu];exact he);haveI o0:Old w0 lg' (lo+k*2) (.int .i64 u.mem):=⟨oc 0 _ (by decide) rfl⟩;haveI o1:Old w0 lg' (lo+k*2+1) (.slice u.ca u.cn u.cc):=⟨oc 1 _ (by decide) rfl⟩;clear oc hu hLl;have hq:∀ x:Int,0≤(if 1000<(if x<0 then 0 else x) then 1000 else if x<0 then 0 else x)∧(if 1000<(if x<0 then 0 else x) then 1000 else if x<0 then 0 else x)≤1000:=fun x=>by split<;>split<;>omega
      have Hq:=hid (hq u.mem);clear hq;go_wp2_with fail;have Hq:=Hq.out;generalize (if 1000<(if u.mem<0 then 0 else u.mem) then (1000:Int) else if u.mem<0 then 0 else u.mem)=q at *;obtain ⟨q,rfl⟩:=Int.eq_ofNat_of_zero_le Hq.1;refine ⟨⟨k+1,m+q,by omega,by omega,by go_num,by go_num,z3⟩,?_⟩;simp [intOf];omega
     ·have hkl:k=c.ls.length:=by omega
      subst hkl;have f3:decide (c.ls.length<c.ls.length)=false:=by simp
      clear hlt hk
      by_cases hn:200<n
      ·have f4:decide (200<n)=true:=decide_eq_true hn;go_wp2_with fail;go_ret;exact ⟨true,rfl,z3,fun h=>by cases h⟩
      ·have f4:decide (200<n)=false:=decide_eq_false hn;go_wp2_with fail;go_ret
       first | exact ⟨_,rfl,z3,fun _=>Hp.out⟩ | exact ⟨_,rfl,z3,fun _=>⟨Hp.out,by omega⟩⟩
theorem zsg {w0 w:World} {v:Value} {s:Sn} {F:HP} (hs:Sat w0 w (stP v s*F)):zjC w v s:=by
 obtain ⟨y,rfl,h⟩:=z9H hs;exact zmw h
theorem zrn (v u:Value) (c:Cf) (s:Sc) (rg:z6B c) (w0:World) (hr:z8I w0 v c) (hq:zqQ w0 u s) (he:wdE c s≠0) :
  Calls Tryz.prog 37 #[v,u] w0 (zp w0 (.tuple #[.pointer none,.int .i64 (wdE c s)]) emp):=by
 unfold wdE at he ⊢
 split at he
 ·rename_i h;rw [if_pos h];exact zqO v u c s rg w0 hr hq h
 ·rename_i h;rw [if_neg h];exact zr6 v u c s rg w0 hr hq (Classical.not_not.1 h) he
theorem zs3 (v u:Value) (c:Cf) (s:Sc) (rg:z6B c) (w0:World) (hr:z8I w0 v c) (hq:zqQ w0 u s) (he:wdE c s≠0) :
  Calls Tryz.prog 35 #[v,u] w0 (zp w0 (.tuple #[.slice none 0 0,.agg zsP.toArray,.int .i64 (wdE c s)]) any):=by
 have hs:=Sat.start w0;have hN:=hid (fun (w:World) (h:Sat w0 w any)=>zrn v u c s rg w (hr.later h) (hq.later h) he);obtain ⟨ta,la,sa,qa,ma,tc,lc,sc,qc,mc,rfl,_,_,_,_,_⟩:=hr.form;obtain ⟨aa,ac,ta2,tc2,rfl,_,_⟩:=hq;have e1:(wdE c s != 0)=true:=by simp [he]
 clear hr he;generalize wdE c s=z at *
 go_enter Tryz.func35,Tryz.ntmps35
 go_wp2_with fail;refine (hN.out _ z3).mono ?_;rintro en w1 ⟨rfl,hp⟩;have hs2:=Sat.past (w0:=w0) z6 hp;clear hs hp;go_wp2_with (first | (refine z09 (w0:=w0) (cells:=zsP) (old:=zsP) rfl rfl rfl rfl Go.Sx.own rfl (by kernel_rfl) rfl ?_;intro w5 hs5));refine bodyPost_ret (zqv Tryz.results35 rfl hs5 Tryz.underlying51 rfl (by kernel_rfl)) rfl ?_;exact ⟨rfl,z3⟩
theorem zrq {l m:List Ev} (hlen:l.length=m.length) {k:Nat} (hk:k<l.length) (h:l.take k=m.take k) (e:l.getD k ev0=m.getD k ev0):l.take (k+1)=m.take (k+1):=by
 rw [List.take_succ_eq_append_getElem hk,List.take_succ_eq_append_getElem (by omega),h];have e1:l.getD k ev0=l[k]:=by simp [List.getD,hk]
 have e2:m.getD k ev0=m[k]:=by simp [List.getD,show k<m.length by omega]
 rw [← e1,← e2,e]
theorem zsa (x y:Ev) (h:x≠y) (w:World):(binOp .neq 89 (.agg #[.int .i64 x.k,.int .u64 x.cy,.int .u64 x.co,.int .u32 x.a,.int .u32 x.b,.int .u32 x.v]) (.agg #[.int .i64 y.k,.int .u64 y.cy,.int .u64 y.co,.int .u32 y.a,.int .u32 y.b,.int .u32 y.v])).run Tryz.prog w=.ok (.bool true) w:=by
 obtain ⟨a1,a2,a3,a4,a5,a6⟩:=x;obtain ⟨b1,b2,b3,b4,b5,b6⟩:=y
 go_simp
 by_cases h1:a1=b1
 case neg=>simp [h1]
 subst h1
 by_cases h2:a2=b2
 case neg=>simp [h2]
 subst h2
 by_cases h3:a3=b3
 case neg=>simp [h3]
 subst h3
 by_cases h4:a4=b4
 case neg=>simp [h4];omega
 subst h4
 by_cases h5:a5=b5
 case neg=>simp [h5];omega
 subst h5
 by_cases h6:a6=b6
 case neg=>simp [h6];omega
 subst h6;exact absurd rfl h
theorem zs5 (v u:Value) (l m:List Ev) (z:Bool) (hz:z=true↔l=m) (w0:World) (h1:RdR w0 v l) (h2:RdR w0 u m):Calls Tryz.prog 22 #[v,u] w0 (zp w0 (.bool z) emp):=by
 have hs:=Sat.start w0;obtain ⟨a,cap,b,off,rfl,hcap,hbig,ha,hc⟩:=h1;obtain ⟨la,lcap,lb,loff,rfl,hlcap,hlbig,hla,hlc⟩:=h2;unfold maxLen at hbig hlbig
 by_cases hlen:l.length=m.length
 ·have hb:((l.length:Int) != (m.length:Int))=false:=by simp [hlen]
  have hlen':=hid hlen;have Ha:=hid ha;have Hc:=hid hc;have Hla:=hid hla;have Hlc:=hid hlc;have Hz:=hid hz;clear hlen ha hc hla hlc hz
  go_enter Tryz.func22,Tryz.ntmps22
  go_wp2_with fail;refine z9 (w0:=w0) ?_;intro ww hsw;clear hs
  go_loopw [5] (fun i wr=>∃ k:Nat,k≤l.length∧i=.int .i64 k∧l.take k=m.take k∧Sat w0 wr emp) (fun i _=>l.length-(intOf i).toNat)
  case atStart=>exact ⟨0,Nat.zero_le _,rfl,rfl,z3⟩
  case round =>
   obtain ⟨k,hk,rfl,heq,hsr⟩:=hrel;clear hsw;have Heq:=hid heq;clear heq
   by_cases hlt:k<l.length
   ·have hlt2:k<m.length:=by have:=hlen'.out;omega
    have f3:decide (k<l.length)=true:=decide_eq_true hlt;have f4:decide (k<m.length)=true:=decide_eq_true hlt2;have i3:(k:Int)<(l.length:Int):=by omega
    have i4:(k:Int)<(m.length:Int):=by omega
    obtain rfl:=Ha.out (by intro h;simp [h] at hlt);obtain rfl:=Hla.out (by intro h;simp [h] at hlt2);obtain ⟨x,hx⟩:∃ x,x=l.getD k ev0:=⟨_,rfl⟩;obtain ⟨y,hy⟩:∃ y,y=m.getD k ev0:=⟨_,rfl⟩;have ox:∀ c u,c<6→(zjV.enc x)[c]?=some u→w0.cell? ⟨b,off+k*6+c,none⟩=some u:=fun c u hc6 he=>z2i Hc.out hlt hc6 (by show (zjV.enc (l.getD k ev0))[c]?=some u;rw [← hx];exact he);have oy:∀ c u,c<6→(zjV.enc y)[c]?=some u→w0.cell? ⟨lb,loff+k*6+c,none⟩=some u:=fun c u hc6 he=>z2i Hlc.out hlt2 hc6 (by show (zjV.enc (m.getD k ev0))[c]?=some u;rw [← hy];exact he);haveI x0:Old w0 b (off+k*6) (.int .i64 x.k):=⟨ox 0 _ (by decide) rfl⟩;haveI x1:Old w0 b (off+k*6+1) (.int .u64 x.cy):=⟨ox 1 _ (by decide) rfl⟩;haveI x2:Old w0 b (off+k*6+2) (.int .u64 x.co):=⟨ox 2 _ (by decide) rfl⟩;haveI x3:Old w0 b (off+k*6+3) (.int .u32 x.a):=⟨ox 3 _ (by decide) rfl⟩;haveI x4:Old w0 b (off+k*6+4) (.int .u32 x.b):=⟨ox 4 _ (by decide) rfl⟩;haveI x5:Old w0 b (off+k*6+5) (.int .u32 x.v):=⟨ox 5 _ (by decide) rfl⟩;haveI y0:Old w0 lb (loff+k*6) (.int .i64 y.k):=⟨oy 0 _ (by decide) rfl⟩;haveI y1:Old w0 lb (loff+k*6+1) (.int .u64 y.cy):=⟨oy 1 _ (by decide) rfl⟩;haveI y2:Old w0 lb (loff+k*6+2) (.int .u64 y.co):=⟨oy 2 _ (by decide) rfl⟩;haveI y3:Old w0 lb (loff+k*6+3) (.int .u32 y.a):=⟨oy 3 _ (by decide) rfl⟩;haveI y4:Old w0 lb (loff+k*6+4) (.int .u32 y.b):=⟨oy 4 _ (by decide) rfl⟩;haveI y5:Old w0 lb (loff+k*6+5) (.int .u32 y.v):=⟨oy 5 _ (by decide) rfl⟩;have hnext:=hid (fun (e:x=y)=>zrq hlen'.out hlt Heq.out (by rw [← hx,← hy];exact e));have hne:Hid (x≠y→l≠m):=fun h e=>h (by rw [hx,hy,e]);clear ox oy hx hy
    by_cases hxy:x=y
    ·subst hxy;have hn2:=hid (hnext.out rfl);clear hnext hne;go_wp2_with fail;go_quiet (fail);go_wp2_with fail;go_roundw
     case rel=>exact ⟨k+1,by omega,by go_num,hn2.out,z3⟩
     case measure=>simp [intOf];omega
    ·have q:=zsa x y hxy;have hz0:z=false:=by
      cases e:z with
      | false=>rfl
      | true=>exact absurd (Hz.out.1 e) (hne.out hxy)
     subst hz0;clear hnext hne hxy;go_wp2_with fail;go_quiet (fail);go_wp2_with fail;go_ret;exact ⟨rfl,z3⟩
   ·have hkl:k=l.length:=by omega
    subst hkl;have f3:decide (l.length<l.length)=false:=by simp
    have hz1:z=true:=Hz.out.2 (by have h1:=Heq.out;rw [List.take_of_length_le (by omega),List.take_of_length_le (by have:=hlen'.out;omega)] at h1;exact h1);subst hz1;clear hlt hk;go_wp2_with fail;go_ret;exact ⟨rfl,z3⟩
 ·have hb:((l.length:Int) != (m.length:Int))=true:=by simp;omega
  have hz0:z=false:=by
   cases e:z with
   | false=>rfl
   | true=>exact absurd (congrArg List.length (hz.1 e)) hlen
  subst hz0;clear ha hc hla hlc hlen hz
  go_enter Tryz.func22,Tryz.ntmps22
  go_wp2_with fail;go_ret;exact ⟨rfl,z3⟩
theorem zs9 (v u:Value) (c:Cf) (s:Sc) (w0:World) (hr:z8I w0 v c) (hq:zqQ w0 u s) :
  Calls Tryz.prog 34 #[v,u] w0 (znV w0 emp (zez c∧s.steps≤200∧s.ar.length≤300∧s.tape.length≤300)):=by
 have hs:=Sat.start w0;have hG:=hid (fun (n:Int) (w:World) (h:Sat w0 w any)=>z9a v c n w (hr.later h));obtain ⟨ta,la,sa,qa,ma,tc,lc,sc,qc,mc,rfl,_,_,_,_,_⟩:=hr.form;obtain ⟨aa,ac,ta2,tc2,rfl,_,_⟩:=hq;obtain ⟨st,A,T⟩:=s;clear hr;dsimp only;have k3:∃ b3:Bool,decide (300<A.length)=b3∧decide ((300:Int)<(A.length:Int))=b3∧(b3=false→A.length≤300):=⟨_,rfl,by simp;omega,fun h=>by simpa using h⟩;have k4:∃ b4:Bool,decide (300<T.length)=b4∧decide ((300:Int)<(T.length:Int))=b4∧(b4=false→T.length≤300):=⟨_,rfl,by simp;omega,fun h=>by simpa using h⟩;obtain ⟨b3,d3,e3,H3⟩:=k3;obtain ⟨b4,d4,e4,H4⟩:=k4;have H3:=hid H3;have H4:=hid H4
 cases b3<;>cases b4
 all_goals
  go_enter Tryz.func34,Tryz.ntmps34
  go_wp2_with fail
  all_goals
   refine (hG.out _ _ z3).mono ?_;rintro en w1 ⟨z,rfl,hp,hz⟩;have hs1:=Sat.past (w0:=w0) z6 hp;have Hz:=hid hz;clear hp hs hz
   cases z
   all_goals
    go_wp2_with fail;go_ret
    first
     | exact ⟨true,rfl,z3,fun h=>by cases h⟩
     | exact ⟨false,rfl,z3,fun _=>⟨(Hz.out (by trivial)).1,by have:=(Hz.out (by trivial)).2;omega,H3.out (by trivial),H4.out (by trivial)⟩⟩
theorem zsu {P:Program} {ops:Array Oper} {rest:List Oper} {op:Oper} {a:Act} {w0 w:World} {Q:Exit→Act→World→Prop} {b o:Nat} {cells:List Value} {F:HP} {ty:TypeId} {x:Operand} {d:TypeDesc} (hw:Region.wanted op (yielded ops a.tmps)=true) (ho:op.op=.load ty x) (hx:a.eval x=.pointer (some ⟨b,o,none⟩)) (hs:Sat w0 w (pts b o cells*F))
  (hu : P.underlying ty = some d) (hd : d.isRow = true) (hi : (P.info? ty).map (·.size) = some cells.length)
  (h:wpList P ops Q rest (a.put op.dst (.agg cells.toArray)) w):wpList P ops Q (op::rest) a w:=by
 simp only [wpList,hw,if_true];exact .inl (Go.wp_load_mid ty x ho b o hx cells d hs.range hu hd hi h)
theorem zsz {w0 w:World} {P X:HP} {a b:Value} {L:List Ev} {s:Sn} (h:Sat w0 w ((z7 a L*(stP b s*P))*X)):Sat w0 w (stP b s*(z7 a L*(P*X))):=h.perm (by ac_rfl)
theorem zsL (f:Ar→Bool) {l:List Ar} {k:Nat} (hk:k<l.length):(l.take (k+1)).filter f=(l.take k).filter f++(if f (arg l k)=true then [arg l k] else []):=by
 have e:arg l k=l[k]:=by simp [arg,List.getD,hk]
 rw [List.take_succ_eq_append_getElem hk,List.filter_append,e]
 by_cases h:f l[k]=true
 ·rw [if_pos h];simp [h]
 ·rw [if_neg h];simp [h]
theorem zsG (f:Ar→Bool):∀ (l:List Ar) (last last2:Int),zqq last l=false→last2≤last→zqq last2 (l.filter f)=false
 | [],_,_,_,_=>rfl
 | a::l,last,last2,h,h2=>by
  unfold zqq at h;simp only [Bool.or_eq_false_iff,decide_eq_false_iff_not] at h
  by_cases e:f a=true
  ·rw [List.filter_cons,if_pos e];unfold zqq;simp only [Bool.or_eq_false_iff,decide_eq_false_iff_not];exact ⟨by omega,zsG f l a.step a.step h.2 (Int.le_refl _)⟩
  ·rw [List.filter_cons,if_neg e];exact zsG f l a.step last2 h.2 (by omega)
theorem zsM {c:Cf} {s:Sc} {T:List Int} (hc:(z5g c).err=0) (rg:z6B c) (hs:scE s=0) (ht:∀ x∈s.tape,zG x) (hT:T.length≤65536)
  (hR:∀ r,0≤r→r<(Wd.run c s.steps.toNat (zqA c s)).K.reads→zqd T r=zqd s.tape r) :
  wdE c ⟨s.steps,s.ar.filter (zqk s.steps c.ls.length),T⟩=0∧Wd.evs c s.steps.toNat (zqA c ⟨s.steps,s.ar.filter (zqk s.steps c.ls.length),T⟩)=Wd.evs c s.steps.toNat (zqA c s) ∧
   (Wd.run c s.steps.toNat (zqA c ⟨s.steps,s.ar.filter (zqk s.steps c.ls.length),T⟩)).K=(Wd.run c s.steps.toNat (zqA c s)).K:=by
 obtain ⟨z1,z2,yz3,yz4,yz5⟩:=zqE hs;have hW:=zrI (z4E rg hc) hs ht;have h0:(zqA c s).K.reads=0:=rfl;have hst:(zqA c s).steps=s.steps:=rfl;obtain ⟨l,e⟩:=zrh (c:=c) (R:=(Wd.run c s.steps.toNat (zqA c s)).K.reads) s.steps.toNat (w':=zqA c ⟨s.steps,s.ar.filter (zqk s.steps c.ls.length),T⟩) hW
  ⟨rfl,rfl,rfl,rfl,zqx _ _ yz5,hR⟩ (by rw [h0];omega) (Int.le_refl _)
 refine ⟨?_,e,l.k⟩;unfold wdE;rw [if_neg (by simp [hc])];unfold scE;rw [if_neg (show ¬ (s.steps<0∨65536<s.steps) by omega),if_neg (show ¬ (65536<(s.ar.filter (zqk s.steps c.ls.length)).length∨65536<T.length) by have:=List.length_filter_le (zqk s.steps c.ls.length) s.ar;omega),zsG _ _ _ _ yz5 (Int.le_refl _)]
 rfl
theorem zsO {t u:List Int} {R:Int} (h:R≤t.length) (r:Int) (h0:0≤r) (h1:r<R):zqd (t.take R.toNat++u) r=zqd t r:=by
 have e1:r.toNat<t.length:=by omega
 have e2:r.toNat<R.toNat:=by omega
 have e3:(t.take R.toNat).length=R.toNat:=by rw [List.length_take];omega
 unfold zqd lg;rw [if_pos (by rw [List.length_append,e3];omega),if_pos (by omega)];rw [List.getD_eq_getElem?_getD,List.getD_eq_getElem?_getD,List.getElem?_append_left (by rw [e3];exact e2),List.getElem?_take_of_lt e2]
theorem zsJ {P:Program} {w0 w:World} {P0 F:HP} {t e bytes:Nat} {z:Value} {κ κ2:IntKind} {l:List Int} {ops:Array Oper} {rest:List Oper} {o:Oper} {a:Act} {Q:Exit→Act→World→Prop} {s hi:Operand} {sa:Option Addr} {sn sc:Nat} {j:Int}
  (hgd:o.guard=none) (ho:o.op=.slice t s none (some hi) none) [E:zjz P t κ e bytes z] (hv:a.eval s=.slice sa sn sc) (hhi:a.eval hi=.int κ2 j) [hs0:Sat w0 w P0] [hp:z3r P0 κ (.slice sa sn sc) l F] (h0:0≤j) (h1:j≤sn)
  (h:∀ x c' (L:List Int),Hid (L=l.take j.toNat)→L.length≤j.toNat→Sat w0 w (z5 κ (.slice x L.length c') L*F)→wpList P ops Q rest (a.put o.dst (.slice x L.length c')) w):wpList P ops Q (o::rest) a w:=by
 have hs:Sat w0 w (z5 κ (.slice sa sn sc) l*F):=hs0.perm hp.eq;have hsn:sn=l.length:=hs.rdN.len_eq;have h1:j≤l.length:=by omega
 refine wpList_plain hgd fun K hK=>?_;obtain ⟨e1,e2⟩:=zb8 (w:=w) E.el;have hl:(l.take j.toNat).length=j.toNat:=by rw [List.length_take];omega
 have hcap:j≤sc:=by
  have:=hs.rdN.caps;omega
 have hrun:(Instr.sliceAt t (.slice sa sn sc) none (some (.int κ2 j)) none).run P w=.ok (sliced sa 0 j.toNat sc 1) w:=by
  rw [run_sliceAt_slice w t _ _ _ _ e1,run_slice_h w t sa sn sc e1 κ2 j h0 hcap,e2];rfl
 unfold Oper.wp execOp;simp only [ho,Option.map,hv,hhi,hrun,Sem.run_bind,Sem.run_pure,Result.andThen_ok];have key:∃ x,sliced sa 0 j.toNat sc 1=.slice x (l.take j.toNat).length sc∧Sat w0 w (z5 κ (.slice x (l.take j.toNat).length sc) (l.take j.toNat)*F):=by
  rw [hl]
  rcases hs.slice_out with ⟨ev,en,ex,hF⟩ | ⟨g,off,cap,sp,ev,hn,hc,hx,hsp,hq⟩
  ·simp only [Value.slice.injEq] at ev;obtain ⟨rfl,rfl,rfl⟩:=ev;have hj:j.toNat=0:=by omega
   refine ⟨none,by simp [sliced,hj],?_⟩;rw [hj];exact hF.slice_nil 1
  ·simp only [Value.slice.injEq] at ev;obtain ⟨rfl,rfl,rfl⟩:=ev;refine ⟨some ⟨g,off,none⟩,by simp [sliced,Addr.add],?_⟩;unfold z5;rw [hl];refine Sat.slice_in (sp:=(l.drop j.toNat).map (Value.int κ)++sp) ?_ (by omega) hc (by simp;omega) (by simp at hx hsp ⊢;omega);rw [← List.append_assoc,← List.map_append,List.take_append_drop];exact hq
 obtain ⟨x,k1,k2⟩:=key;rw [k1];exact hK _ _ (h x sc _ rfl (by omega) k2)
instance:zjz Tryz.prog 43 .u32 25 4 (.int .u32 0):=⟨zjU,by decide⟩
instance (x y:Int):zgX zqj [.int .i64 x,.int .i64 y] [⟨x,y⟩]:=⟨rfl⟩
theorem zsH {P:Program} {l:List Oper} {Q:Exit→Act→World→Prop} {S:World→Prop} {i:Nat} {p:z58} {a:Act} {w0 w:World} {op:Oper} {R:HP} (te:TypeId) [hs:Sat w0 w R] (hi0:l[i]?=some op) (hgd:op.guard=none)
  (hx:(execOp a.eval op).run P w=.ok (.value (.slice (some ⟨w.heap.size,0,none⟩) 0 0)) (w.alloc (.cells #[] te)))
  (h:∀ g w',Sat w0 w' (z5 .u32 (.slice (some ⟨g,0,none⟩) 0 0) []*R)→∃ S':World→Prop,(∀ w,S' w→S w)∧S' w'∧z08 P l.toArray Q S' p (a.put op.dst (.slice (some ⟨g,0,none⟩) 0 0)) w'):z08 P l.toArray Q S (.run i p) a w :=
 ziP hi0 hgd hx (h _ _ (hs.empty_slice 1 te))
theorem zsK {c:Cf} {s:Sc} {A:List Ar} {T:List Int} (he:Wd.evs c s.steps.toNat (zqA c ⟨s.steps,A,T⟩)=Wd.evs c s.steps.toNat (zqA c s)) (hk:(Wd.run c s.steps.toNat (zqA c ⟨s.steps,A,T⟩)).K=(Wd.run c s.steps.toNat (zqA c s)).K):zs7 c ⟨s.steps,A,T⟩=zs7 c s:=by
 funext v
 unfold zs7;show (ex fun a:Value=>ex fun b:Value=>pur (v=.tuple #[a,b,.int .i64 0])*(z7 a (Wd.evs c s.steps.toNat (zqA c ⟨s.steps,A,T⟩))*stP b ((Wd.run c s.steps.toNat (zqA c ⟨s.steps,A,T⟩)).K.st c)))=_;rw [he,hk]
theorem zsN {v:Value} {c:Cf} {s:Sc} {w0:World} (h0:z8I w0 v c) (hT:Tab w0) (k0:z6B c) (hc:(z5g c).err=0) (hs:scE s=0) (ht:∀ x∈s.tape,zG x) {A:List Ar} {T:List Int} (hA:A=s.ar.filter (zqk s.steps c.ls.length)) (hl:T.length≤65536)
  (hr:∀ r,0≤r→r<(Wd.run c s.steps.toNat (zqA c s)).K.reads→zqd T r=zqd s.tape r) (hT2:∀ x∈T,zG x) {oa xa:Option Addr} {oc xc:Nat} (w:World) (h:Sat w0 w any) (h1:Sat w0 w (z7 (.slice oa A.length oc) A*any)) (h2:Sat w0 w (z5 .u32 (.slice xa T.length xc) T*any)) :
  Calls Tryz.prog 35 #[v,.agg #[.slice oa A.length oc,.slice xa T.length xc,.int .i64 s.steps]] w (Ret w fun v'=>zs7 c s v'):=by
 subst hA;obtain ⟨e1,e2,e3⟩:=zsM hc k0 hs ht hl hr;rw [← zsK e2 e3];exact zse v _ c ⟨s.steps,s.ar.filter (zqk s.steps c.ls.length),T⟩ k0 w (hT.later h) (h0.later h) ⟨oa,oc,xa,xc,rfl,h1.rdR,h2.rdN⟩ hT2 e1
theorem zsI (v0:Value) (c0:Cf) (v1:Value) (s0:Sc) (v2:Value) (l2:List Int) (w0:World) (h0:z8I w0 v0 c0) (k0:z6B c0) (h1:zqQ w0 v1 s0) (k1:∀ x∈s0.tape,zG x) (h2:RdN .u32 w0 v2 l2) (k2:∀ n∈l2,(Lit.int .u32 n).wf=true) (hT:Tab w0) :
  Calls Tryz.prog 5 #[v0,v1,v2] w0 (zp w0 (.bool true) emp):=by
 have hs:=Sat.start w0;have hAw:=hid (fun (w:World) (h:Sat w0 w any)=>zr9 w (hT.later h));have hLg:=hid (fun (w:World) (h:Sat w0 w any)=>zs9 v0 v1 c0 s0 w (h0.later h) (h1.later h));have hRe:=hid (fun (he:wdE c0 s0≠0) (w:World) (h:Sat w0 w any)=>zs3 v0 v1 c0 s0 k0 w (h0.later h) (h1.later h) he);have hRn:=hid (fun (he:wdE c0 s0=0) (w:World) (h:Sat w0 w any)=>zse v0 v1 c0 s0 k0 w (hT.later h) (h0.later h) (h1.later h) k1 he);have K1:=hid k1;have K0:=hid k0;have K2:=hid k2;have HT:=hid hT;have H0:=hid h0;obtain ⟨ta,la,sa,qa,ma,tc,lc,sc,qc,mc,rfl,_,_,_,_,_⟩:=h0.form;obtain ⟨aa,ac,ta2,tc2,rfl,hAr,hTp⟩:=h1;haveI ot:znU w0 .u32 (.slice ta2 s0.tape.length tc2) s0.tape:=⟨hTp⟩;obtain ⟨_,_,ag,ao,e0,_,_,ga,gc⟩:=hAr;simp only [Value.slice.injEq,true_and] at e0;obtain ⟨rfl,rfl⟩:=e0;have Ga:=hid ga;have Gc:=hid gc;have om0:=h2;obtain ⟨na,nc,nb,no,rfl,_,hbig,ha,hc⟩:=h2;haveI om:znU w0 .u32 (.slice na l2.length nc) l2:=⟨om0⟩;clear hTp om0 ga gc;unfold maxLen at hbig;have u100:l2.length≤100∨100<l2.length:=by omega
 clear h0 hT k1 k0 k2 ha hc
 rcases u100 with h100 | h100
 case inr =>
  have d1:decide (100<l2.length)=true:=decide_eq_true h100;have e1:decide ((100:Int)<(l2.length:Int))=true:=by simp;omega
  go_enter Tryz.func5,Tryz.ntmps5
  go_wp2_with fail;refine (hAw.out _ z3).mono ?_;rintro en w1 ⟨rfl,hp⟩;have hs1:=Sat.past (w0:=w0) z6 hp;clear hp hs;go_wp2_with fail;refine (hLg.out _ z3).mono ?_;rintro en w2 ⟨z,rfl,hp,hz⟩;have hs2:=Sat.past (w0:=w0) z6 hp;have Hz:=hid hz;clear hp hs1 hz
  cases z
  all_goals
   go_wp2_with fail;refine (hAw.out _ z3).mono ?_;rintro en w3 ⟨rfl,hp⟩;have hs3:=Sat.past (w0:=w0) z6 hp;clear hp hs2;go_wp2_with fail;go_ret;exact ⟨rfl,z3⟩
 case inl =>
  have d1:decide (100<l2.length)=false:=decide_eq_false (by omega);have e1:decide ((100:Int)<(l2.length:Int))=false:=by simp;omega
  go_enter Tryz.func5,Tryz.ntmps5
  go_wp2_with fail;refine (hAw.out _ z3).mono ?_;rintro en w1 ⟨rfl,hp⟩;have hs1:=Sat.past (w0:=w0) z6 hp;clear hp hs;go_wp2_with fail;refine (hLg.out _ z3).mono ?_;rintro en w2 ⟨z,rfl,hp,hz⟩;have hs2:=Sat.past (w0:=w0) z6 hp;have Hz:=hid hz;clear hp hs1 hz
  cases z
  case true =>
   go_wp2_with fail;refine (hAw.out _ z3).mono ?_;rintro en w3 ⟨rfl,hp⟩;have hs3:=Sat.past (w0:=w0) z6 hp;clear hp hs2;go_wp2_with fail;go_ret;exact ⟨rfl,z3⟩
  case false =>
   have Lg:=hid (Hz.out rfl);clear Hz
   by_cases he:wdE c0 s0=0
   case neg =>
    have hR:=hid (hRe.out he);have q1:(wdE c0 s0 != 0)=true:=by simp [he]
    clear he hRe hRn;generalize wdE c0 s0=e at *;go_wp2_with fail;refine (hR.out _ z3).mono ?_;rintro en w3 ⟨rfl,hp⟩;have hs3:=Sat.over (w0:=w0) hs2 hp;clear hp hs2;go_wp2_with (first | (refine z09 (w0:=w0) (cells:=zsP) (old:=zsP) rfl rfl rfl rfl Go.Sx.own rfl (by kernel_rfl) rfl ?_;intro w5 hs5));go_ret;exact ⟨rfl,z3⟩
   case pos =>
    have hR:=hid (hRn.out he);obtain ⟨hok,hse⟩:=zs1 he;have hW:=zrI (z4E K0.out hok) hse K1.out;have rds:=(zrk s0.steps.toNat hW).inv.rds;have hR2:=hid (fun (A:List Ar) (T:List Int) (hA:A=s0.ar.filter (zqk s0.steps c0.ls.length)) (hl:T.length≤65536) (ht:∀ r,0≤r→r<(Wd.run c0 s0.steps.toNat (zqA c0 s0)).K.reads→zqd T r=zqd s0.tape r) (hr:∀ x∈T,zG x) (oa xa:Option Addr) (oc xc:Nat) (w:World) (h:Sat w0 w any) (h1:Sat w0 w (z7 (.slice oa A.length oc) A*any)) (h2:Sat w0 w (z5 .u32 (.slice xa T.length xc) T*any))=>zsN H0.out HT.out K0.out hok hse K1.out hA hl ht hr w h h1 h2);have Rl:=hid (show 0≤(Wd.run c0 s0.steps.toNat (zqA c0 s0)).K.reads∧(Wd.run c0 s0.steps.toNat (zqA c0 s0)).K.reads<18446744073709551616 by omega);clear he hRe hRn hok hse hW rds;go_wp2_with fail;refine (hR.out _ z3).mono ?_;rintro en w3 ⟨v3,rfl,hp⟩;obtain ⟨ev,sv,rfl,hp2⟩:=zqU (hp.perm (zz _).symm);have hs3:=Sat.over (w0:=w0) hs2 hp2;obtain ⟨ea,ec,rfl⟩:=hp2.slice_form;obtain ⟨cl,rfl,hcl,hone,⟨_,_,_,q27,_⟩,hs5⟩:=zqw (zsz hs3);clear hp hp2 hs3 hs2;obtain ⟨L,hL⟩:∃ X,X=Wd.evs c0 s0.steps.toNat (zqA c0 s0):=⟨_,rfl⟩;obtain ⟨sn,hsn⟩:∃ X,X=(Wd.run c0 s0.steps.toNat (zqA c0 s0)).K.st c0:=⟨_,rfl⟩;have q27:cl[27]?=some (.int .u64 (Wd.run c0 s0.steps.toNat (zqA c0 s0)).K.reads):=q27;rw [← hL,← hsn] at hs5;rw [← hL];have HL:=hid hL;have Hsn:=hid hsn;have Q27:=hid q27;clear hL hsn q27;have U:=Lg.out.2
    go_upto_region 6 with (first | (refine z09 (w0:=w0) (cells:=cl) (old:=zsP) rfl rfl rfl rfl Go.Sx.own (by rw [hcl];rfl) (by rw [hcl];kernel_rfl) hone ?_;intro w5 hs6))
    refine z9 (w0:=w0) ?_;intro w6 hs7;clear hs6 hs5;generalize w3.heap.size=eb at *
    go_cut [10] (fun v wx=>∃ (tb:Nat) (xa:Option Addr) (xc:Nat),v=.pointer (some ⟨tb,0,none⟩)∧Sat w0 wx (pts tb 0 [.slice none 0 0,.slice xa s0.tape.length xc,.int .i64 s0.steps]*(z5 .u32 (.slice xa s0.tape.length xc) s0.tape*(pts eb 0 cl*(stP (.agg cl.toArray) sn*(z7 (.slice ea L.length ec) L*(pts (w0.heap.size+1) 0 [.slice aa s0.ar.length ac,.slice ta2 s0.tape.length tc2,.int .i64 s0.steps]*(pts w0.heap.size 0 [.slice ta c0.ts.length tc,.slice la c0.ls.length lc,.int .i64 c0.mutexes,.slice sa c0.sems.length sc,.slice qa c0.queues.length qc,.slice ma c0.timers.length mc,.int .i64 c0.table,.int .u32 c0.mask,.int .u32 c0.filter,.int .i64 c0.charge,.int .u64 c0.cycle,.int .u64 c0.count]*any))))))))
    case first =>
     refine z4l (fun w'=>Sat w0 w' (pts (w0.heap.size+1) 0 [.slice aa s0.ar.length ac,.slice ta2 s0.tape.length tc2,.int .i64 s0.steps]*any)) (.read 0 (.read 1 (.read 3 (.read 4 (.alt 2 (.alt 5 (.read 6 (.run 7 (.run 8 .done))) 7 (.run 5 (.read 6 (.run 8 .done)))) 7 (.run 2 (.run 5 (.read 6 (.run 8 .done))))))))) (by kernel_rfl) (by kernel_rfl) (fun _ _ _ _ h=>h) z3 ?_
     iterate 4 ((first | (refine zpP rfl (by rfl) ?_;apply Exists.intro;refine ⟨fun w hSw=>?_,?_⟩;focus ((try dsimp only at hSw);go_simp;try with_reducible rfl)) | refine zpO rfl (by rfl) ?_);simp only [Act.put,Go.zqA,Go.zqP,Go.zqQ])
     refine z4a ?_ ?_
     ·refine zsH (w0:=w0) 25 (by rfl) (by rfl) (by go_simp) ?_;intro bg wB hsB;refine ⟨_,fun _ h=>h,zq,?_⟩;simp only [Act.put,Go.zqA,Go.zqP,Go.zqQ];refine z4a ?_ ?_
      ·refine z9L (by rfl) (by rfl) (z4k (w0:=w0) rfl rfl rfl (by omega) ?_);intro ap ac5 aL aw ahL ah1 ah2 ahs _;refine ⟨_,fun _ h=>h,zq,?_⟩;simp only [Act.put,Go.zqA,Go.zqP,Go.zqQ]
       iterate 1 ((first | (refine zpP rfl (by rfl) ?_;apply Exists.intro;refine ⟨fun w hSw=>?_,?_⟩;focus ((try dsimp only at hSw);go_simp;try with_reducible rfl)) | refine zpO rfl (by rfl) ?_);simp only [Act.put,Go.zqA,Go.zqP,Go.zqQ])
       refine z15 (w0:=w0) [.slice none 0 0,.slice none 0 0,.int .i64 0] 81 (by rfl) (by rfl) (by go_simp) ?_;intro tb wA hsA;refine ⟨_,fun _ h=>h,zq,?_⟩;simp only [Act.put,Go.zqA,Go.zqP,Go.zqQ];refine z17 (w0:=w0) (b:=tb) (o:=0) (cells:=[.slice none 0 0,.slice ap aL.length ac5,.int .i64 s0.steps]) (old:=[.slice none 0 0,.slice none 0 0,.int .i64 0]) (by rfl) (by rfl) (by rfl) (by rfl) (by rfl) Go.Sx.own rfl (by kernel_rfl) rfl ?_;intro wS hsS;refine ⟨_,fun _ h=>h,zq,?_⟩;simp only [Act.put,Go.zqA,Go.zqP,Go.zqQ];refine z16 ?_;go_wp2_with fail
       go_meet
       obtain rfl:aL=s0.tape:=by rw [ahL.out];rfl
       exact ⟨tb,ap,ac5,rfl,z3⟩
      ·refine z15 (w0:=w0) [.slice none 0 0,.slice none 0 0,.int .i64 0] 81 (by rfl) (by rfl) (by go_simp) ?_;intro tb wA hsA;refine ⟨_,fun _ h=>h,zq,?_⟩;simp only [Act.put,Go.zqA,Go.zqP,Go.zqQ];refine z9L (by rfl) (by rfl) (z4k (w0:=w0) rfl rfl rfl (by omega) ?_);intro ap ac5 aL aw ahL ah1 ah2 ahs _;refine ⟨_,fun _ h=>h,zq,?_⟩;simp only [Act.put,Go.zqA,Go.zqP,Go.zqQ]
       iterate 1 ((first | (refine zpP rfl (by rfl) ?_;apply Exists.intro;refine ⟨fun w hSw=>?_,?_⟩;focus ((try dsimp only at hSw);go_simp;try with_reducible rfl)) | refine zpO rfl (by rfl) ?_);simp only [Act.put,Go.zqA,Go.zqP,Go.zqQ])
       refine z17 (w0:=w0) (b:=tb) (o:=0) (cells:=[.slice none 0 0,.slice ap aL.length ac5,.int .i64 s0.steps]) (old:=[.slice none 0 0,.slice none 0 0,.int .i64 0]) (by rfl) (by rfl) (by rfl) (by rfl) (by rfl) Go.Sx.own rfl (by kernel_rfl) rfl ?_;intro wS hsS;refine ⟨_,fun _ h=>h,zq,?_⟩;simp only [Act.put,Go.zqA,Go.zqP,Go.zqQ];refine z16 ?_;go_wp2_with fail
       go_meet
       obtain rfl:aL=s0.tape:=by rw [ahL.out];rfl
       exact ⟨tb,ap,ac5,rfl,z3⟩
     ·refine z15 (w0:=w0) [.slice none 0 0,.slice none 0 0,.int .i64 0] 81 (by rfl) (by rfl) (by go_simp) ?_;intro tb wA hsA;refine ⟨_,fun _ h=>h,zq,?_⟩;simp only [Act.put,Go.zqA,Go.zqP,Go.zqQ];refine zsH (w0:=w0) 25 (by rfl) (by rfl) (by go_simp) ?_;intro bg wB hsB;refine ⟨_,fun _ h=>h,zq,?_⟩;simp only [Act.put,Go.zqA,Go.zqP,Go.zqQ];refine z9L (by rfl) (by rfl) (z4k (w0:=w0) rfl rfl rfl (by omega) ?_);intro ap ac5 aL aw ahL ah1 ah2 ahs _;refine ⟨_,fun _ h=>h,zq,?_⟩;simp only [Act.put,Go.zqA,Go.zqP,Go.zqQ]
      iterate 1 ((first | (refine zpP rfl (by rfl) ?_;apply Exists.intro;refine ⟨fun w hSw=>?_,?_⟩;focus ((try dsimp only at hSw);go_simp;try with_reducible rfl)) | refine zpO rfl (by rfl) ?_);simp only [Act.put,Go.zqA,Go.zqP,Go.zqQ])
      refine z17 (w0:=w0) (b:=tb) (o:=0) (cells:=[.slice none 0 0,.slice ap aL.length ac5,.int .i64 s0.steps]) (old:=[.slice none 0 0,.slice none 0 0,.int .i64 0]) (by rfl) (by rfl) (by rfl) (by rfl) (by rfl) Go.Sx.own rfl (by kernel_rfl) rfl ?_;intro wS hsS;refine ⟨_,fun _ h=>h,zq,?_⟩;simp only [Act.put,Go.zqA,Go.zqP,Go.zqQ];refine z16 ?_;go_wp2_with fail
      go_meet
      obtain rfl:aL=s0.tape:=by rw [ahL.out];rfl
      exact ⟨tb,ap,ac5,rfl,z3⟩
    case rest =>
     obtain ⟨tb,xa,xc,rfl,hs8⟩:=hcut;clear hs7
     rename_i Kc hKc
     refine hKc _ _ ?_;go_wp2_with fail;refine z9 (w0:=w0) ?_;intro w7 hs9;clear hs8
     go_loopw [48] (fun i wr=>∃ (k:Nat) (oa:Option Addr) (oc:Nat) (A:List Ar),k≤s0.ar.length∧Hid (A=(s0.ar.take k).filter (zqk s0.steps c0.ls.length))∧i=.int .i64 k∧Sat w0 wr (pts tb 0 [.slice oa A.length oc,.slice xa s0.tape.length xc,.int .i64 s0.steps]*(z7 (.slice oa A.length oc) A*(z5 .u32 (.slice xa s0.tape.length xc) s0.tape*(pts eb 0 cl*(stP (.agg cl.toArray) sn*(z7 (.slice ea L.length ec) L*(pts (w0.heap.size+1) 0 [.slice aa s0.ar.length ac,.slice ta2 s0.tape.length tc2,.int .i64 s0.steps]*(pts w0.heap.size 0 [.slice ta c0.ts.length tc,.slice la c0.ls.length lc,.int .i64 c0.mutexes,.slice sa c0.sems.length sc,.slice qa c0.queues.length qc,.slice ma c0.timers.length mc,.int .i64 c0.table,.int .u32 c0.mask,.int .u32 c0.filter,.int .i64 c0.charge,.int .u64 c0.cycle,.int .u64 c0.count]*any))))))))) (fun i _=>s0.ar.length-(intOf i).toNat)
     case atStart=>exact ⟨0,none,0,[],Nat.zero_le _,hid rfl,rfl,by
      refine Sat.perm (P:=pts tb 0 [.slice none 0 0,.slice xa s0.tape.length xc,.int .i64 s0.steps]*(z5 .u32 (.slice xa s0.tape.length xc) s0.tape*(pts eb 0 cl*(stP (.agg cl.toArray) sn*(z7 (.slice ea L.length ec) L*(pts (w0.heap.size+1) 0 [.slice aa s0.ar.length ac,.slice ta2 s0.tape.length tc2,.int .i64 s0.steps]*(pts w0.heap.size 0 [.slice ta c0.ts.length tc,.slice la c0.ls.length lc,.int .i64 c0.mutexes,.slice sa c0.sems.length sc,.slice qa c0.queues.length qc,.slice ma c0.timers.length mc,.int .i64 c0.table,.int .u32 c0.mask,.int .u32 c0.filter,.int .i64 c0.charge,.int .u64 c0.cycle,.int .u64 c0.count]*any))))))) z3 ?_;rw [show z7 (α:=Ar) (.slice none ([]:List Ar).length 0) []=emp from z03,zm];rfl⟩
     case round =>
      obtain ⟨k,oa,oc,A,hk,hA,rfl,hsr⟩:=hrel;clear hs9;have hAl:A.length≤300:=by
       have h1:=List.length_filter_le (zqk s0.steps c0.ls.length) (s0.ar.take k);rw [← hA.out,List.length_take] at h1;omega
      by_cases hlt:k<s0.ar.length
      ·have f3:decide (k<s0.ar.length)=true:=decide_eq_true hlt;have i3:(k:Int)<(s0.ar.length:Int):=by omega
       obtain rfl:=Ga.out (by intro h;simp [h] at hlt);obtain ⟨x,hx⟩:∃ x,x=arg s0.ar k:=⟨_,rfl⟩;have oc2:∀ c u,c<2→(zqj.enc x)[c]?=some u→w0.cell? ⟨ag,ao+k*2+c,none⟩=some u:=fun c u hc6 he=>z2i Gc.out hlt hc6 (by show (zqj.enc (arg s0.ar k))[c]?=some u;rw [← hx];exact he);haveI o0:Old w0 ag (ao+k*2) (.int .i64 x.step):=⟨oc2 0 _ (by decide) rfl⟩;haveI o1:Old w0 ag (ao+k*2+1) (.int .i64 x.line):=⟨oc2 1 _ (by decide) rfl⟩;have hnx:=hid (zsL (zqk s0.steps c0.ls.length) hlt);rw [← hx] at hnx;clear oc2 hx;obtain ⟨xs,xl⟩:=x;dsimp only at o0 o1
       by_cases hkp:xs≤s0.steps∧xl<(c0.ls.length:Int)
       ·have q1:decide (xs≤s0.steps)=true:=decide_eq_true hkp.1;have q2:decide (xl<(c0.ls.length:Int))=true:=decide_eq_true hkp.2;have hn2:=hid (show (s0.ar.take (k+1)).filter (zqk s0.steps c0.ls.length)=A++[⟨xs,xl⟩] by
         rw [hnx.out,← hA.out,if_pos (show zqk s0.steps c0.ls.length ⟨xs,xl⟩=true from decide_eq_true hkp)])
        clear hkp hnx hA;go_wp2_with (at_builtin;refine zA rfl rfl rfl rfl (by omega) ?_;intro ap ac6 aL aw ahL ah1 ah2 ahs _);go_roundw
        case rel =>
         exact ⟨k+1,ap,ac6,aL,by omega,hid (by rw [hn2.out,ahL.out]),by go_num,z3⟩
        case measure=>simp [intOf];omega
       ·have hn2:=hid (show (s0.ar.take (k+1)).filter (zqk s0.steps c0.ls.length)=A by
         rw [hnx.out,← hA.out,if_neg (show ¬ zqk s0.steps c0.ls.length ⟨xs,xl⟩=true from fun h=>hkp (of_decide_eq_true h)),List.append_nil])
        clear hnx hA
        by_cases hk1:xs≤s0.steps
        ·have q1:decide (xs≤s0.steps)=true:=decide_eq_true hk1;have q2:decide (xl<(c0.ls.length:Int))=false:=decide_eq_false fun h=>hkp ⟨hk1,h⟩;clear hkp hk1;go_wp2_with fail;go_roundw
         case rel =>
          exact ⟨k+1,oa,oc,A,by omega,hid hn2.out.symm,by go_num,z3⟩
         case measure=>simp [intOf];omega
        ·have q1:decide (xs≤s0.steps)=false:=decide_eq_false hk1;clear hkp hk1;go_wp2_with fail;go_roundw
         case rel =>
          exact ⟨k+1,oa,oc,A,by omega,hid hn2.out.symm,by go_num,z3⟩
         case measure=>simp [intOf];omega
      ·have hkl:k=s0.ar.length:=by omega
       subst hkl;have f3:decide (s0.ar.length<s0.ar.length)=false:=by simp
       have hA2:=hid (show A=s0.ar.filter (zqk s0.steps c0.ls.length) by rw [hA.out,List.take_length]);clear hlt hk hA;obtain ⟨R,hRR⟩:∃ R,R=(Wd.run c0 s0.steps.toNat (zqA c0 s0)).K.reads:=⟨_,rfl⟩;rw [← hRR] at hR2 Rl Q27;clear hRR;haveI c27:zC (pts eb 0 cl) eb 27 (.int .u64 R):=zrB Q27.out;have u1:IntKind.u64.wrap (s0.tape.length:Int)=(s0.tape.length:Int):=by rw [IntKind.wrap_u64];omega
       by_cases hle:R≤(s0.tape.length:Int)
       case' pos =>
        have d3:decide (R≤(s0.tape.length:Int))=true:=decide_eq_true hle;obtain ⟨r0,rl⟩:=Rl.out
        go_upto_region 15 with (first | (refine zsJ rfl rfl rfl rfl (by omega) (by omega) ?_;intro cx cc cL hcL hcB hsC) | (at_builtin;refine z06 rfl rfl rfl rfl (by omega) ?_;intro ap ac7 aL aw ahL ah1 ah2 ahs _))
        refine z9 (w0:=w0) ?_;intro w20 hs19;obtain ⟨T2,xb,xd,hT2,hs21⟩:∃ (T2:List Int) (xb:Option Addr) (xd:Nat),Hid (T2.length≤65536∧(∀ r,0≤r→r<R→zqd T2 r=zqd s0.tape r)∧∀ x∈T2,zG x)∧Sat w0 w20 (pts tb 0 [.slice oa A.length oc,.slice xb T2.length xd,.int .i64 s0.steps]*(z7 (.slice oa A.length oc) A*(z5 .u32 (.slice xb T2.length xd) T2*(pts eb 0 cl*(stP (.agg cl.toArray) sn*(z7 (.slice ea L.length ec) L*(pts (w0.heap.size+1) 0 [.slice aa s0.ar.length ac,.slice ta2 s0.tape.length tc2,.int .i64 s0.steps]*(pts w0.heap.size 0 [.slice ta c0.ts.length tc,.slice la c0.ls.length lc,.int .i64 c0.mutexes,.slice sa c0.sems.length sc,.slice qa c0.queues.length qc,.slice ma c0.timers.length mc,.int .i64 c0.table,.int .u32 c0.mask,.int .u32 c0.filter,.int .i64 c0.charge,.int .u64 c0.cycle,.int .u64 c0.count]*any)))))))):=⟨aL,ap,ac7,hid ⟨by omega,by rw [ahL.out,hcL.out];exact zsO hle,by
         rw [ahL.out,hcL.out];intro x hx
         rcases List.mem_append.1 hx with h | h
         ·exact K1.out x (List.mem_of_mem_take h)
         ·exact zbk (K2.out x h)⟩,z3⟩
       case' neg =>
        have d3:decide (R≤(s0.tape.length:Int))=false:=decide_eq_false hle
        go_upto_region 15 with fail
        refine z9 (w0:=w0) ?_;intro w20 hs19;obtain ⟨T2,xb,xd,hT2,hs21⟩:∃ (T2:List Int) (xb:Option Addr) (xd:Nat),Hid (T2.length≤65536∧(∀ r,0≤r→r<R→zqd T2 r=zqd s0.tape r)∧∀ x∈T2,zG x)∧Sat w0 w20 (pts tb 0 [.slice oa A.length oc,.slice xb T2.length xd,.int .i64 s0.steps]*(z7 (.slice oa A.length oc) A*(z5 .u32 (.slice xb T2.length xd) T2*(pts eb 0 cl*(stP (.agg cl.toArray) sn*(z7 (.slice ea L.length ec) L*(pts (w0.heap.size+1) 0 [.slice aa s0.ar.length ac,.slice ta2 s0.tape.length tc2,.int .i64 s0.steps]*(pts w0.heap.size 0 [.slice ta c0.ts.length tc,.slice la c0.ls.length lc,.int .i64 c0.mutexes,.slice sa c0.sems.length sc,.slice qa c0.queues.length qc,.slice ma c0.timers.length mc,.int .i64 c0.table,.int .u32 c0.mask,.int .u32 c0.filter,.int .i64 c0.charge,.int .u64 c0.cycle,.int .u64 c0.count]*any)))))))):=⟨s0.tape,xa,xc,hid ⟨by omega,fun _ _ _=>rfl,K1.out⟩,z3⟩
       all_goals
        have hX:=hid (hR2.out A T2 hA2.out hT2.out.1 hT2.out.2.1 hT2.out.2.2);clear hs19 hsr
        try clear ahs
        try clear hsC
        have hSb:=hid (fun (v:Value) (w:World) (h:Sat w0 w (stP v sn*any)) (h2:Sat w0 w (stP (.agg cl.toArray) sn*any))=>zgi _ v sn sn true (by simp) w (zsg h2) (zsg h));have hSa:=hid (fun (oa:Option Addr) (oc:Nat) (w:World) (h:Sat w0 w (z7 (.slice oa L.length oc) L*any)) (h2:Sat w0 w (z7 (.slice ea L.length ec) L*any))=>zs5 _ _ L L true (by simp) w h2.rdR h.rdR);go_wp2_with fail;refine (hX.out _ _ _ _ _ z3 z3 z3).mono ?_;rintro en w22 ⟨v22,rfl,hp⟩;obtain ⟨ev2,sv2,rfl,hp2⟩:=zqU (hp.perm (zz _).symm);rw [← HL.out,← Hsn.out] at hp2;have hs22:=Sat.over (w0:=w0) hs21 hp2;obtain ⟨fa,fc,rfl⟩:=hp2.slice_form;obtain ⟨dl,rfl,hdl,hone2,hs23⟩:=zr3 (zsz hs22);clear hp hp2 hs22 hs21;go_wp2_with (first | (refine z09 (w0:=w0) (cells:=dl) (old:=zsP) rfl rfl rfl rfl Go.Sx.own (by rw [hdl];rfl) (by rw [hdl];kernel_rfl) hone2 ?_;intro w24 hs24));generalize w22.heap.size=fb at *;refine (hSa.out _ _ _ z3 z3).mono ?_;rintro en w26 ⟨rfl,hp⟩;have hs26:=Sat.past (w0:=w0) hs24 hp;clear hp hs24 hs23;have t1:Sat w0 w26 (pts eb 0 cl*any):=z3;have t2:Sat w0 w26 (pts fb 0 dl*any):=z3 (hs:=hs26);go_wp2_with (first | (refine zsu (w0:=w0) (b:=eb) (o:=0) (cells:=cl) (F:=any) (by rfl) rfl rfl t1 Tryz.underlying51 rfl (by rw [hcl];kernel_rfl) ?_) | (refine zsu (w0:=w0) (b:=fb) (o:=0) (cells:=dl) (F:=any) (by rfl) rfl rfl t2 Tryz.underlying51 rfl (by rw [hdl];kernel_rfl) ?_));refine (hSb.out (.agg dl.toArray) w26 (z3 (hs:=hs26)) (z3 (hs:=hs26))).mono ?_;rintro en w27 ⟨rfl,hp⟩;have hs27:=Sat.past (w0:=w0) hs26 hp;clear hp hs26;go_wp2_with fail;go_ret;exact ⟨rfl,z3⟩
end Go.Proofs.YtlbjjoeocdimfaaGreatDoor
