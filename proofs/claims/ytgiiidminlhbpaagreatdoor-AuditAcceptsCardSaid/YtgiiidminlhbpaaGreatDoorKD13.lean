/-
  Parts of the proof: ConfC ConfD RegionE ConfE ConfF ConfG KernNz KernNy WorldFc.
-/
import Derived.Test.YtgiiidminlhbpaaGreatDoorKD0
import Derived.Test.YtgiiidminlhbpaaGreatDoorKD1
import Derived.Test.YtgiiidminlhbpaaGreatDoorKD8
import Derived.Test.YtgiiidminlhbpaaGreatDoorKD12
set_option linter.unusedVariables false
set_option linter.unusedSimpArgs false
set_option maxHeartbeats 32000000
set_option maxRecDepth 100000
namespace Go.Proofs.YtgiiidminlhbpaaGreatDoor
open Go.RowKit Go.Sx Go.Dl Go.Lk Go.Rq Go.Au
theorem IsT.later {w0 w:World} {v:Tv} {t:Tc} {P:HP} (h:IsT w0 v t) (hs:Sat w0 w P):IsT w v t:=⟨h.lev,h.off,h.per,h.dl,h.mem,h.code.later hs⟩
theorem IsL.later {w0 w:World} {v:Lv} {t:Lc} {P:HP} (h:IsL w0 v t) (hs:Sat w0 w P):IsL w v t:=⟨h.mem,h.code.later hs⟩
theorem zed {c:Cf} {k:Nat} (hl:¬ 64<c.ts.length) (hk:k<c.ts.length) (h:¬ (z53 (tcg c k) k).err=0) (hj:∀ j,j<k→(z53 (tcg c j) j).err=0):z0R c=z53 (tcg c k) k:=by
 unfold z0R;rw [if_neg hl,z2y hk (by unfold z5K;simp [h]) (fun j hj2=>by unfold z5K;simp [hj j hj2])]
theorem zc6 {c:Cf} (hl:¬ 64<c.ts.length) (hj:∀ j,j<c.ts.length→(z53 (tcg c j) j).err=0):z0R c=z3I c:=by
 unfold z0R;rw [if_neg hl,z38 (fun j hj2=>by unfold z5K;simp [hj j hj2])]
theorem zfC {c:Cf} {k:Nat} (hl:¬ 16<c.ls.length) (hk:k<c.ls.length) (h:¬ (z6a (lcg c k) k).err=0) (hj:∀ j,j<k→(z6a (lcg c j) j).err=0):z3I c=z6a (lcg c k) k:=by
 unfold z3I;rw [if_neg hl,z2y hk (by unfold z5t;simp [h]) (fun j hj2=>by unfold z5t;simp [hj j hj2])]
theorem zbU {c:Cf} (hl:¬ 16<c.ls.length) (hj:∀ j,j<c.ls.length→(z6a (lcg c j) j).err=0):z3I c=ft0:=by
 unfold z3I;rw [if_neg hl,z38 (fun j hj2=>by unfold z5t;simp [hj j hj2])]
theorem z9X (v:Value) (c:Cf) (rg:z6B c) (w0:World) (hr:z8I w0 v c) :
  Calls Tryz.prog 65 #[v] w0 (zp w0 (ftV (z0R c)) emp):=by
 have hs:=Sat.start w0;obtain ⟨tv,lv,sv,qv,mv,rfl,⟨T,hT,hTn,hTi⟩,⟨L,hL,hLn,hLi⟩,hS,hQ,hM⟩:=hr.out;clear hr;obtain ⟨sa,scap,_,_,rfl,_⟩:=hS;obtain ⟨qa,qcap,_,_,rfl,_⟩:=hQ;obtain ⟨ma,mcap,_,_,rfl,_⟩:=hM;obtain ⟨ta,tcap,tg,tto,rfl,_,_,hta,htc⟩:=hT;obtain ⟨la,lcap,lg',lo,rfl,_,_,hla,hlc⟩:=hL;rw [hTn,hLn];have Hta:=hid hta;have Htc:=hid htc;have Hla:=hid hla;have Hlc:=hid hlc;have HTn:=hid hTn;have HLn:=hid hLn;have HTi:=hid hTi;have HLi:=hid hLi;have Rg:=hid rg;clear hta htc hla hlc hTn hLn hTi hLi rg
 by_cases hl:64<c.ts.length
 ·have hx:z0R c=⟨4,1,0,0⟩:=by unfold z0R;rw [if_pos hl]
  rw [hx];have d1:decide (64<c.ts.length)=true:=decide_eq_true hl;have d2:decide ((64:Int)<(c.ts.length:Int))=true:=by simp;omega
  clear hx
  go_enter Tryz.func65,Tryz.ntmps65
  go_wp2_with fail;go_returns;exact ⟨rfl,z3⟩
 ·have d1:decide (64<c.ts.length)=false:=decide_eq_false hl;have d2:decide ((64:Int)<(c.ts.length:Int))=false:=by simp;omega
  go_enter Tryz.func65,Tryz.ntmps65
  go_wp2_with fail;refine z9 (w0:=w0) ?_;intro ww hsw;clear hs
  go_loopw [18] (fun i wr=>∃ k:Nat,k≤c.ts.length∧i=.int .i64 k∧(∀ j,j<k→(z53 (tcg c j) j).err=0)∧Sat w0 wr (pts w0.heap.size 0 [.slice ta c.ts.length tcap,.slice la c.ls.length lcap,.int .i64 c.mutexes,.slice sa c.sems.length scap,.slice qa c.queues.length qcap,.slice ma c.timers.length mcap,.int .i64 c.table,.int .u32 c.mask,.int .u32 c.filter,.int .i64 c.charge,.int .u64 c.cycle,.int .u64 c.count]*(pts (w0.heap.size+1) 0 [.int .i64 0,.int .i64 0,.int .i64 0,.int .i64 0]*any))) (fun i _=>c.ts.length-(intOf i).toNat)
  case atStart=>exact ⟨0,Nat.zero_le _,rfl,fun j hj=>absurd hj (by omega),z3⟩
  case round =>
   obtain ⟨k,hk,rfl,hb,hsr⟩:=hrel;clear hsw;have Hb:=hid hb;clear hb
   by_cases hlt:k<c.ts.length
   ·have d3:decide (k<c.ts.length)=true:=decide_eq_true hlt;have i3:(k:Int)<(c.ts.length:Int):=by omega
    have hTl:=HTn.out;obtain rfl:=Hta.out (by intro h;simp [h] at hTl;omega);have hit:=HTi.out k hlt;obtain ⟨u,hu⟩:∃ u,u=T.getD k tv0:=⟨_,rfl⟩;have oc:∀ c' y,c'<6→(z8Q.enc u)[c']?=some y→w0.cell? ⟨tg,tto+k*6+c',none⟩=some y:=fun c' y hc6 he=>z2i Htc.out (by omega) hc6 (by show (z8Q.enc (T.getD k tv0))[c']?=some y;rw [← hu];exact he);rw [← hu] at hit;haveI o0:Old w0 tg (tto+k*6) (.int .i64 u.lev):=⟨oc 0 _ (by decide) rfl⟩;haveI o1:Old w0 tg (tto+k*6+1) (.int .i64 u.off):=⟨oc 1 _ (by decide) rfl⟩;haveI o2:Old w0 tg (tto+k*6+2) (.int .i64 u.per):=⟨oc 2 _ (by decide) rfl⟩;haveI o3:Old w0 tg (tto+k*6+3) (.int .i64 u.dl):=⟨oc 3 _ (by decide) rfl⟩;haveI o4:Old w0 tg (tto+k*6+4) (.int .i64 u.mem):=⟨oc 4 _ (by decide) rfl⟩;haveI o5:Old w0 tg (tto+k*6+5) (.slice u.ca u.cn u.cc):=⟨oc 5 _ (by decide) rfl⟩;obtain ⟨z,hz⟩:∃ z,z=z53 (tcg c k) k:=⟨_,rfl⟩;have hA:=hid (fun (w:World) (hs:Sat w0 w any)=>zha u (tcg c k) k (by omega) (Rg.out.tk k hlt) w (hit.later hs));have hbad:=hid fun h=>zed hl hlt h Hb.out;rw [← hz] at hA hbad;unfold ftV at hA;clear oc hu hTl hit
    by_cases hz0:z.err=0
    ·have hb2:Hid (∀ j,j<k+1→(z53 (tcg c j) j).err=0):=hid fun j hj=>by
      rcases Nat.lt_or_ge j k with h | h
      ·exact Hb.out j h
      ·obtain rfl:j=k:=by omega
       rw [← hz];exact hz0
     clear hz hbad;go_wp2_with fail;refine (hA.out _ z3).mono ?_;rintro en w1 ⟨rfl,hs1⟩;have hs2:=Sat.past (w0:=w0) z6 hs1;clear hs1 hsr;go_wp2_with fail;go_roundw
     case rel=>exact ⟨k+1,by omega,by go_num,hb2.out,z3⟩
     case measure=>simp [intOf];omega
    ·have hx:=hid (hbad.out hz0);have z1:(z.err != 0)=true:=by simp [hz0]
     rw [hx.out];clear hz hbad hz0 hx;go_wp2_with fail;refine (hA.out _ z3).mono ?_;rintro en w1 ⟨rfl,hs1⟩;have hs2:=Sat.past (w0:=w0) z6 hs1;clear hs1 hsr;go_wp2_with fail;go_returns;exact ⟨rfl,z3⟩
   ·have hkl:k=c.ts.length:=by omega
    subst hkl;have d3:decide (c.ts.length<c.ts.length)=false:=by simp
    have hx1:=hid (zc6 hl Hb.out);clear hlt hk
    by_cases hl2:16<c.ls.length
    ·have hx2:z3I c=⟨4,2,0,0⟩:=by unfold z3I;rw [if_pos hl2]
     have Hx:=hid (hx1.out.trans hx2);have d4:decide (16<c.ls.length)=true:=decide_eq_true hl2;have d5:decide ((16:Int)<(c.ls.length:Int))=true:=by simp;omega
     clear hx1 hx2;go_wp2_with fail
     all_goals
      go_returns;refine ⟨?_,z3⟩;rw [Hx.out];rfl
    ·have d4:decide (16<c.ls.length)=false:=decide_eq_false hl2;have d5:decide ((16:Int)<(c.ls.length:Int))=false:=by simp;omega
     go_wp2_with fail;refine z9 (w0:=w0) ?_;intro w3 hs3;clear hsr
     go_loopw [39] (fun i wr=>∃ k:Nat,k≤c.ls.length∧i=.int .i64 k∧(∀ j,j<k→(z6a (lcg c j) j).err=0)∧Sat w0 wr (pts w0.heap.size 0 [.slice ta c.ts.length tcap,.slice la c.ls.length lcap,.int .i64 c.mutexes,.slice sa c.sems.length scap,.slice qa c.queues.length qcap,.slice ma c.timers.length mcap,.int .i64 c.table,.int .u32 c.mask,.int .u32 c.filter,.int .i64 c.charge,.int .u64 c.cycle,.int .u64 c.count]*(pts (w0.heap.size+1) 0 [.int .i64 0,.int .i64 0,.int .i64 0,.int .i64 0]*any))) (fun i _=>c.ls.length-(intOf i).toNat)
     case atStart=>exact ⟨0,Nat.zero_le _,rfl,fun j hj=>absurd hj (by omega),z3⟩
     case round =>
      obtain ⟨k,hk,rfl,hb,hsr⟩:=hrel;clear hs3;have Hb2:=hid hb;clear hb
      by_cases hlt:k<c.ls.length
      ·have d6:decide (k<c.ls.length)=true:=decide_eq_true hlt;have i3:(k:Int)<(c.ls.length:Int):=by omega
       have hLl:=HLn.out;obtain rfl:=Hla.out (by intro h;simp [h] at hLl;omega);have hit:=HLi.out k hlt;obtain ⟨u,hu⟩:∃ u,u=L.getD k lv0:=⟨_,rfl⟩;have oc:∀ c' y,c'<2→(z8P.enc u)[c']?=some y→w0.cell? ⟨lg',lo+k*2+c',none⟩=some y:=fun c' y hc6 he=>z2i Hlc.out (by omega) hc6 (by show (z8P.enc (L.getD k lv0))[c']?=some y;rw [← hu];exact he);rw [← hu] at hit;have hit:IsL w0 u (lcg c k):=hit;haveI o0:Old w0 lg' (lo+k*2) (.int .i64 (lcg c k).mem):=⟨by rw [← hit.mem];exact oc 0 _ (by decide) rfl⟩;haveI o1:Old w0 lg' (lo+k*2+1) (.slice u.ca u.cn u.cc):=⟨oc 1 _ (by decide) rfl⟩;obtain ⟨z,hz⟩:∃ z,z=z6a (lcg c k) k:=⟨_,rfl⟩;have hbad:=hid fun h=>zfC hl2 hlt h Hb2.out;rw [← hz] at hbad;have hC:=hid (fun (w:World) (h:Sat w0 w any)=>zcF u.cv (lcg c k).code true 5 2 k 1 2 (by decide) (Rg.out.lk k hlt) w (hit.code.later h));clear oc hu hLl hit
       cases g:inR (lcg c k).mem 0 256
       ·have hze:z=⟨5,2,k,1⟩:=by rw [hz];unfold z6a;rw [if_pos (by simp [g])]
        have hx:=hid (hx1.out.trans (hbad.out (by rw [hze];simp)));rw [hze] at hx;have hA:=hid (fun w=>z0y (lcg c k).mem 0 256 false g w);clear hz hbad g hze hC;go_wp2_with fail;refine (hA.out _).mono ?_;rintro en w1 ⟨rfl,rfl⟩;go_wp2_with fail;go_returns;refine ⟨?_,z3⟩;rw [hx.out];rfl
       ·have hze:z=z5f (lcg c k).code true 2 k 2:=by rw [hz];unfold z6a;rw [if_neg (by simp [g])]
        have hA:=hid (fun w=>z0y (lcg c k).mem 0 256 true g w);rw [← hze] at hC;unfold ftV at hC;clear g hze
        by_cases hz0:z.err=0
        ·have hb2:Hid (∀ j,j<k+1→(z6a (lcg c j) j).err=0):=hid fun j hj=>by
          rcases Nat.lt_or_ge j k with h | h
          ·exact Hb2.out j h
          ·obtain rfl:j=k:=by omega
           rw [← hz];exact hz0
         clear hz hbad;go_wp2_with fail;refine (hA.out _).mono ?_;rintro en w1 ⟨rfl,rfl⟩;go_wp2_with fail;refine (hC.out _ z3).mono ?_;rintro en w1 ⟨rfl,hs1⟩;have hs2:=Sat.past (w0:=w0) z6 hs1;clear hs1 hsr;go_wp2_with fail;go_roundw
         case rel=>exact ⟨k+1,by omega,by go_num,hb2.out,z3⟩
         case measure=>simp [intOf];omega
        ·have hx:=hid (hx1.out.trans (hbad.out hz0));have z1:(z.err != 0)=true:=by simp [hz0]
         clear hz hbad hz0;go_wp2_with fail;refine (hA.out _).mono ?_;rintro en w1 ⟨rfl,rfl⟩;go_wp2_with fail;refine (hC.out _ z3).mono ?_;rintro en w1 ⟨rfl,hs1⟩;have hs2:=Sat.past (w0:=w0) z6 hs1;clear hs1 hsr;go_wp2_with fail;go_returns;refine ⟨?_,z3⟩;rw [hx.out];rfl
      ·have hkl:k=c.ls.length:=by omega
       subst hkl;have d6:decide (c.ls.length<c.ls.length)=false:=by simp
       have Hx:=hid (hx1.out.trans (zbU hl2 Hb2.out));clear hlt hk hx1;go_wp2_with fail
       all_goals
        go_returns;refine ⟨?_,z3⟩;rw [Hx.out];rfl
def znC (c:Cf):Nat→Ft
 | 0=>z8u (inR c.mutexes 0 32) 3
 | 1=>z84 c.sems 4 0 255
 | 2=>z84 c.queues 5 1 64
 | 3=>z84 c.timers 6 0 (c.sems.length-1)
 | 4=>z8u (inR c.table 0 64) 7
 | 5=>z8u (z5T c) 8
 | _=>z8u (inR c.charge 0 64) 9
def zh (c:Cf):Nat→Ft
 | 0=>z0R c
 | n+1=>z86 (zh c n) (znC c n)
theorem zjD.later {w0 w:World} {v:Value} {l:List Tc} {P:HP} (h:zjD w0 v l) (hs:Sat w0 w P):zjD w v l:=let ⟨T,a,b,d⟩:=h; ⟨T,a.later hs,b,fun t ht=>(d t ht).later hs⟩
theorem zjB.later {w0 w:World} {v:Value} {l:List Lc} {P:HP} (h:zjB w0 v l) (hs:Sat w0 w P):zjB w v l:=let ⟨T,a,b,d⟩:=h; ⟨T,a.later hs,b,fun t ht=>(d t ht).later hs⟩
theorem z8I.later {w0 w:World} {v:Value} {c:Cf} {P:HP} (h:z8I w0 v c) (hs:Sat w0 w P):z8I w v c:=let ⟨_,_,_,_,_,e,a,b,d,f,g⟩:=h.out; ⟨⟨_,_,_,_,_,e,a.later hs,b.later hs,d.later hs,f.later hs,g.later hs⟩⟩
theorem zjD.form {w:World} {v:Value} {l:List Tc} (h:zjD w v l):∃ a cap,v=.slice a l.length cap:=by
 obtain ⟨T,⟨a,cap,_,_,rfl,_⟩,e,_⟩:=h;exact ⟨a,cap,by rw [e]⟩
theorem zjB.form {w:World} {v:Value} {l:List Lc} (h:zjB w v l):∃ a cap,v=.slice a l.length cap:=by
 obtain ⟨T,⟨a,cap,_,_,rfl,_⟩,e,_⟩:=h;exact ⟨a,cap,by rw [e]⟩
theorem z8I.form {w:World} {v:Value} {c:Cf} (h:z8I w v c):∃ ta la sa qa ma tc lc sc qc mc,v=.agg #[.slice ta c.ts.length tc,.slice la c.ls.length lc,.int .i64 c.mutexes,.slice sa c.sems.length sc,.slice qa c.queues.length qc,.slice ma c.timers.length mc,.int .i64 c.table,.int .u32 c.mask,.int .u32 c.filter,.int .i64 c.charge,.int .u64 c.cycle,.int .u64 c.count]∧zjD w (.slice ta c.ts.length tc) c.ts∧zjB w (.slice la c.ls.length lc) c.ls∧RdN .i64 w (.slice sa c.sems.length sc) c.sems∧RdN .i64 w (.slice qa c.queues.length qc) c.queues∧RdN .i64 w (.slice ma c.timers.length mc) c.timers:=by
 obtain ⟨tv,lv,sv,qv,mv,rfl,h1,h2,h3,h4,h5⟩:=h.out;obtain ⟨ta,tc,rfl⟩:=h1.form;obtain ⟨la,lc,rfl⟩:=h2.form;have h3':=h3;have h4':=h4;have h5':=h5;obtain ⟨sa,sc,_,_,rfl,_⟩:=h3;obtain ⟨qa,qc,_,_,rfl,_⟩:=h4;obtain ⟨ma,mc,_,_,rfl,_⟩:=h5;exact ⟨ta,la,sa,qa,ma,tc,lc,sc,qc,mc,rfl,h1,h2,h3',h4',h5'⟩
@[go_sem] theorem zlV (x0 x1 x2 x3 x4 x5 x6 x7 x8 x9 x10 x11 x12 x13 x14 x15 x16 x17 x18 x19 x20 x21 x22 x23 x24 x25 x26 x27:Value) (w:World):Sem.run Tryz.prog (Instr.index 151 (.agg #[x0,x1,x2,x3,x4,x5,x6,x7,x8,x9,x10,x11,x12,x13,x14,x15,x16,x17,x18,x19,x20,x21,x22,x23,x24,x25,x26,x27]) (.int .i64 0)) w=.ok (.agg #[x0,x1,x2,x3]) w:=by kernel_rfl
@[go_sem] theorem zlW (x0 x1 x2 x3 x4 x5 x6 x7 x8 x9 x10 x11 x12 x13 x14 x15 x16 x17 x18 x19 x20 x21 x22 x23 x24 x25 x26 x27:Value) (w:World):Sem.run Tryz.prog (Instr.index 151 (.agg #[x0,x1,x2,x3,x4,x5,x6,x7,x8,x9,x10,x11,x12,x13,x14,x15,x16,x17,x18,x19,x20,x21,x22,x23,x24,x25,x26,x27]) (.int .i64 1)) w=.ok (.agg #[x4,x5,x6,x7]) w:=by kernel_rfl
@[go_sem] theorem zlX (x0 x1 x2 x3 x4 x5 x6 x7 x8 x9 x10 x11 x12 x13 x14 x15 x16 x17 x18 x19 x20 x21 x22 x23 x24 x25 x26 x27:Value) (w:World):Sem.run Tryz.prog (Instr.index 151 (.agg #[x0,x1,x2,x3,x4,x5,x6,x7,x8,x9,x10,x11,x12,x13,x14,x15,x16,x17,x18,x19,x20,x21,x22,x23,x24,x25,x26,x27]) (.int .i64 2)) w=.ok (.agg #[x8,x9,x10,x11]) w:=by kernel_rfl
@[go_sem] theorem zlY (x0 x1 x2 x3 x4 x5 x6 x7 x8 x9 x10 x11 x12 x13 x14 x15 x16 x17 x18 x19 x20 x21 x22 x23 x24 x25 x26 x27:Value) (w:World):Sem.run Tryz.prog (Instr.index 151 (.agg #[x0,x1,x2,x3,x4,x5,x6,x7,x8,x9,x10,x11,x12,x13,x14,x15,x16,x17,x18,x19,x20,x21,x22,x23,x24,x25,x26,x27]) (.int .i64 3)) w=.ok (.agg #[x12,x13,x14,x15]) w:=by kernel_rfl
@[go_sem] theorem zlZ (x0 x1 x2 x3 x4 x5 x6 x7 x8 x9 x10 x11 x12 x13 x14 x15 x16 x17 x18 x19 x20 x21 x22 x23 x24 x25 x26 x27:Value) (w:World):Sem.run Tryz.prog (Instr.index 151 (.agg #[x0,x1,x2,x3,x4,x5,x6,x7,x8,x9,x10,x11,x12,x13,x14,x15,x16,x17,x18,x19,x20,x21,x22,x23,x24,x25,x26,x27]) (.int .i64 4)) w=.ok (.agg #[x16,x17,x18,x19]) w:=by kernel_rfl
@[go_sem] theorem zm0 (x0 x1 x2 x3 x4 x5 x6 x7 x8 x9 x10 x11 x12 x13 x14 x15 x16 x17 x18 x19 x20 x21 x22 x23 x24 x25 x26 x27:Value) (w:World):Sem.run Tryz.prog (Instr.index 151 (.agg #[x0,x1,x2,x3,x4,x5,x6,x7,x8,x9,x10,x11,x12,x13,x14,x15,x16,x17,x18,x19,x20,x21,x22,x23,x24,x25,x26,x27]) (.int .i64 5)) w=.ok (.agg #[x20,x21,x22,x23]) w:=by kernel_rfl
@[go_sem] theorem zm1 (x0 x1 x2 x3 x4 x5 x6 x7 x8 x9 x10 x11 x12 x13 x14 x15 x16 x17 x18 x19 x20 x21 x22 x23 x24 x25 x26 x27:Value) (w:World):Sem.run Tryz.prog (Instr.index 151 (.agg #[x0,x1,x2,x3,x4,x5,x6,x7,x8,x9,x10,x11,x12,x13,x14,x15,x16,x17,x18,x19,x20,x21,x22,x23,x24,x25,x26,x27]) (.int .i64 6)) w=.ok (.agg #[x24,x25,x26,x27]) w:=by kernel_rfl
theorem z9W (v:Value) (c:Cf) (rg:z6B c) (w0:World) (hr:z8I w0 v c) :
  Calls Tryz.prog 41 #[v] w0 (zp w0 (ftV (z5g c)) emp):=by
 have hs:=Sat.start w0;have hA:=hid (fun (w:World) (h:Sat w0 w any)=>z9X v c rg w (hr.later h));obtain ⟨ta,la,sa,qa,ma,tc,lc,sc,qc,mc,rfl,h1,h2,h3,h4,h5⟩:=hr.form;have hS:=hid (fun (w:World) (h:Sat w0 w any)=>zbq _ c.sems 4 0 255 w (h3.later h));have hQ:=hid (fun (w:World) (h:Sat w0 w any)=>zbq _ c.queues 5 1 64 w (h4.later h));have hM:=hid (fun (w:World) (h:Sat w0 w any)=>zbq _ c.timers 6 0 (c.sems.length-1) w (h5.later h));have hmu:=hid (fun w=>z0y c.mutexes 0 32 _ rfl w);have htb:=hid (fun w=>z0y c.table 0 64 _ rfl w);have hch:=hid (fun w=>z0y c.charge 0 64 _ rfl w);have hsl:=h3.len;obtain ⟨n,hnd⟩:∃ n:Nat,(c.ls.length≤16∧n=c.ls.length∨¬ c.ls.length≤16∧n=16):=⟨min c.ls.length 16,by omega⟩;have u1:IntKind.i64.wrap ((c.sems.length:Int)-1)=(c.sems.length:Int)-1:=by rw [IntKind.wrap_i64];unfold maxLen at hsl;omega
 clear hr h1 h2 h3 h4 h5 hsl
 rcases hnd with ⟨hn,rfl⟩ | ⟨hn,rfl⟩
 ·have d1:¬ ((16:Int)<(c.ls.length:Int)):=by omega
  have dm:(((c.mask:Int) / 2^c.ls.length)==0)=z5T c:=by
   unfold z5T;rw [Nat.min_eq_left hn,Nat.shiftRight_eq_div_pow,Bool.eq_iff_iff];simp only [beq_iff_eq,decide_eq_true_eq];have:((c.mask:Int) / 2^c.ls.length)=((c.mask / 2^c.ls.length:Nat):Int):=by simp
   rw [this];omega
  go_enter Tryz.func41,Tryz.ntmps41
  go_wp2_with fail;refine (hA.out _ z3).mono ?_;rintro en w1 ⟨rfl,hs1⟩;have hs2:=Sat.past (w0:=w0) z6 hs1;clear hs1 hs;unfold ftV;go_wp2_with fail;refine z9 (w0:=w0) ?_;intro wx hsx;clear hs2;refine zj (fun w'=>Sat w0 w' (pts w0.heap.size 0 [.slice ta c.ts.length tc,.slice la c.ls.length lc,.int .i64 c.mutexes,.slice sa c.sems.length sc,.slice qa c.queues.length qc,.slice ma c.timers.length mc,.int .i64 c.table,.int .u32 c.mask,.int .u32 c.filter,.int .i64 c.charge,.int .u64 c.cycle,.int .u64 c.count]*any)) [(0,true),(1,true),(4,true),(5,true),(7,true),(8,true),(10,true),(11,true),(12,true),(13,true),(14,true),(15,true),(17,true),(18,true),(21,true),(22,true),(23,true),(24,true),(25,true),(26,true),(27,true),(28,true),(30,true),(31,true),(35,true),(2,false),(3,false),(6,false),(9,false),(16,false),(19,false),(20,false),(29,false),(32,false),(33,false),(34,true)] (by kernel_rfl) (by kernel_rfl) (fun _ _ _ _ h=>h) zq ?_
  iterate 25 (first | refine zsR ?_ | refine zsQ ?_)
  refine z29 rfl (by rfl) (fun K hK=>?_);go_wp2_with fail;refine (hmu.out _).mono ?_;rintro en w2 ⟨rfl,rfl⟩;go_wp2_with fail;refine ⟨zq,?_⟩;refine z29 rfl (by rfl) (fun K hK=>?_);go_wp2_with fail;refine (z1j _ _ _).mono ?_;rintro en w11 ⟨rfl,hq⟩;have hsy:=Sat.past (w0:=w0) z6 hq;clear hq hsx;have hsx:=hsy;clear hsy;unfold ftV;go_wp2_with fail;refine ⟨zq,?_⟩;refine z29 rfl (by rfl) (fun K hK=>?_);go_wp2_with fail;refine (hS.out _ z3).mono ?_;rintro en w12 ⟨rfl,hq⟩;have hsy:=Sat.past (w0:=w0) z6 hq;clear hq hsx;have hsx:=hsy;clear hsy;unfold ftV;go_wp2_with fail;refine ⟨zq,?_⟩;refine z29 rfl (by rfl) (fun K hK=>?_);go_wp2_with fail;refine (hQ.out _ z3).mono ?_;rintro en w13 ⟨rfl,hq⟩;have hsy:=Sat.past (w0:=w0) z6 hq;clear hq hsx;have hsx:=hsy;clear hsy;unfold ftV;go_wp2_with fail;refine ⟨zq,?_⟩;refine z29 rfl (by rfl) (fun K hK=>?_);go_wp2_with fail;refine (hM.out _ z3).mono ?_;rintro en w14 ⟨rfl,hq⟩;have hsy:=Sat.past (w0:=w0) z6 hq;clear hq hsx;have hsx:=hsy;clear hsy;unfold ftV;go_wp2_with fail;refine ⟨zq,?_⟩;refine z29 rfl (by rfl) (fun K hK=>?_);go_wp2_with fail;refine (htb.out _).mono ?_;rintro en w2 ⟨rfl,rfl⟩;go_wp2_with fail;refine ⟨zq,?_⟩;refine z29 rfl (by rfl) (fun K hK=>?_);go_wp2_with fail;refine (z1j _ _ _).mono ?_;rintro en w16 ⟨rfl,hq⟩;have hsy:=Sat.past (w0:=w0) z6 hq;clear hq hsx;have hsx:=hsy;clear hsy;unfold ftV;go_wp2_with fail;refine ⟨zq,?_⟩;refine z29 rfl (by rfl) (fun K hK=>?_);go_wp2_with fail;refine (z1j _ _ _).mono ?_;rintro en w17 ⟨rfl,hq⟩;have hsy:=Sat.past (w0:=w0) z6 hq;clear hq hsx;have hsx:=hsy;clear hsy;unfold ftV;go_wp2_with fail;refine ⟨zq,?_⟩;refine z29 rfl (by rfl) (fun K hK=>?_);go_wp2_with fail;refine (hch.out _).mono ?_;rintro en w2 ⟨rfl,rfl⟩;go_wp2_with fail;refine ⟨zq,?_⟩;refine z29 rfl (by rfl) (fun K hK=>?_);go_wp2_with fail;refine (z1j _ _ _).mono ?_;rintro en w19 ⟨rfl,hq⟩;have hsy:=Sat.past (w0:=w0) z6 hq;clear hq hsx;have hsx:=hsy;clear hsy;unfold ftV;go_wp2_with fail;refine ⟨zq,?_⟩
  iterate 1 (first | refine zsR ?_ | refine zsQ ?_)
  refine zB ?_;go_wp2_with fail;refine z9 (w0:=w0) ?_;intro wl hsl;clear hsx
  go_loopw [43] (fun i wr=>∃ k:Nat,k≤7∧i=.int .i64 k∧Sat w0 wr (pts w1.heap.size 0 [.int .i64 (zh c k).err,.int .i64 (zh c k).part,.int .i64 (zh c k).index,.int .i64 (zh c k).at_]*(pts (w0.heap.size+1) 0 [.int .i64 0,.int .i64 0,.int .i64 0,.int .i64 0]*any))) (fun i _=>7-(intOf i).toNat)
  case atStart =>
   have hsl:Sat w0 wl (pts w1.heap.size 0 [.int .i64 (zh c 0).err,.int .i64 (zh c 0).part,.int .i64 (zh c 0).index,.int .i64 (zh c 0).at_]*(pts (w0.heap.size+1) 0 [.int .i64 0,.int .i64 0,.int .i64 0,.int .i64 0]*any)):=by unfold zh;exact z3
   exact ⟨0,by omega,rfl,hsl⟩
  case round =>
   obtain ⟨k,hk,rfl,hsr⟩:=hrel;clear hsl;have hk8:k=0∨k=1∨k=2∨k=3∨k=4∨k=5∨k=6∨k=7:=by omega
   rcases hk8 with rfl | rfl | rfl | rfl | rfl | rfl | rfl | rfl
   ·by_cases e:(zh c 0).err=0
    ·have hx:Hid (zh c 1=z8u (inR c.mutexes 0 32) 3):=hid (if_pos e);go_wp2_with fail;go_roundw
     case rel=>exact ⟨1,by omega,rfl,by rw [hx.out];exact z3⟩
     case measure=>simp [intOf]
    ·have hx:Hid (zh c 1=zh c 0):=hid (if_neg e);have e1:((zh c 0).err==0)=false:=by simp [e]
     clear e;go_wp2_with fail;go_roundw
     case rel=>exact ⟨1,by omega,rfl,by rw [hx.out];exact z3⟩
     case measure=>simp [intOf]
   ·by_cases e:(zh c 1).err=0
    ·have hx:Hid (zh c 2=z84 c.sems 4 0 255):=hid (if_pos e);go_wp2_with fail;go_roundw
     case rel=>exact ⟨2,by omega,rfl,by rw [hx.out];exact z3⟩
     case measure=>simp [intOf]
    ·have hx:Hid (zh c 2=zh c 1):=hid (if_neg e);have e1:((zh c 1).err==0)=false:=by simp [e]
     clear e;go_wp2_with fail;go_roundw
     case rel=>exact ⟨2,by omega,rfl,by rw [hx.out];exact z3⟩
     case measure=>simp [intOf]
   ·by_cases e:(zh c 2).err=0
    ·have hx:Hid (zh c 3=z84 c.queues 5 1 64):=hid (if_pos e);go_wp2_with fail;go_roundw
     case rel=>exact ⟨3,by omega,rfl,by rw [hx.out];exact z3⟩
     case measure=>simp [intOf]
    ·have hx:Hid (zh c 3=zh c 2):=hid (if_neg e);have e1:((zh c 2).err==0)=false:=by simp [e]
     clear e;go_wp2_with fail;go_roundw
     case rel=>exact ⟨3,by omega,rfl,by rw [hx.out];exact z3⟩
     case measure=>simp [intOf]
   ·by_cases e:(zh c 3).err=0
    ·have hx:Hid (zh c 4=z84 c.timers 6 0 (c.sems.length-1)):=hid (if_pos e);go_wp2_with fail;go_roundw
     case rel=>exact ⟨4,by omega,rfl,by rw [hx.out];exact z3⟩
     case measure=>simp [intOf]
    ·have hx:Hid (zh c 4=zh c 3):=hid (if_neg e);have e1:((zh c 3).err==0)=false:=by simp [e]
     clear e;go_wp2_with fail;go_roundw
     case rel=>exact ⟨4,by omega,rfl,by rw [hx.out];exact z3⟩
     case measure=>simp [intOf]
   ·by_cases e:(zh c 4).err=0
    ·have hx:Hid (zh c 5=z8u (inR c.table 0 64) 7):=hid (if_pos e);go_wp2_with fail;go_roundw
     case rel=>exact ⟨5,by omega,rfl,by rw [hx.out];exact z3⟩
     case measure=>simp [intOf]
    ·have hx:Hid (zh c 5=zh c 4):=hid (if_neg e);have e1:((zh c 4).err==0)=false:=by simp [e]
     clear e;go_wp2_with fail;go_roundw
     case rel=>exact ⟨5,by omega,rfl,by rw [hx.out];exact z3⟩
     case measure=>simp [intOf]
   ·by_cases e:(zh c 5).err=0
    ·have hx:Hid (zh c 6=z8u (z5T c) 8):=hid (if_pos e);go_wp2_with fail;go_roundw
     case rel=>exact ⟨6,by omega,rfl,by rw [hx.out];exact z3⟩
     case measure=>simp [intOf]
    ·have hx:Hid (zh c 6=zh c 5):=hid (if_neg e);have e1:((zh c 5).err==0)=false:=by simp [e]
     clear e;go_wp2_with fail;go_roundw
     case rel=>exact ⟨6,by omega,rfl,by rw [hx.out];exact z3⟩
     case measure=>simp [intOf]
   ·by_cases e:(zh c 6).err=0
    ·have hx:Hid (zh c 7=z8u (inR c.charge 0 64) 9):=hid (if_pos e);go_wp2_with fail;go_roundw
     case rel=>exact ⟨7,by omega,rfl,by rw [hx.out];exact z3⟩
     case measure=>simp [intOf]
    ·have hx:Hid (zh c 7=zh c 6):=hid (if_neg e);have e1:((zh c 6).err==0)=false:=by simp [e]
     clear e;go_wp2_with fail;go_roundw
     case rel=>exact ⟨7,by omega,rfl,by rw [hx.out];exact z3⟩
     case measure=>simp [intOf]
   ·go_wp2_with fail
    all_goals
     go_returns;exact ⟨rfl,z3⟩
 ·have d1:((16:Int)<(c.ls.length:Int)):=by omega
  have dm:(((c.mask:Int) / 65536)==0)=z5T c:=by
   unfold z5T;rw [Nat.min_eq_right (by omega),Nat.shiftRight_eq_div_pow,Bool.eq_iff_iff];simp only [beq_iff_eq,decide_eq_true_eq];omega
  go_enter Tryz.func41,Tryz.ntmps41
  go_wp2_with fail;refine (hA.out _ z3).mono ?_;rintro en w1 ⟨rfl,hs1⟩;have hs2:=Sat.past (w0:=w0) z6 hs1;clear hs1 hs;unfold ftV;go_wp2_with fail;refine z9 (w0:=w0) ?_;intro wx hsx;clear hs2;refine zj (fun w'=>Sat w0 w' (pts w0.heap.size 0 [.slice ta c.ts.length tc,.slice la c.ls.length lc,.int .i64 c.mutexes,.slice sa c.sems.length sc,.slice qa c.queues.length qc,.slice ma c.timers.length mc,.int .i64 c.table,.int .u32 c.mask,.int .u32 c.filter,.int .i64 c.charge,.int .u64 c.cycle,.int .u64 c.count]*any)) [(0,true),(1,true),(4,true),(5,true),(7,true),(8,true),(10,true),(11,true),(12,true),(13,true),(14,true),(15,true),(17,true),(18,true),(21,true),(22,true),(23,true),(24,true),(25,true),(26,true),(27,true),(28,true),(30,true),(31,true),(35,true),(2,false),(3,false),(6,false),(9,false),(16,false),(19,false),(20,false),(29,false),(32,false),(33,false),(34,true)] (by kernel_rfl) (by kernel_rfl) (fun _ _ _ _ h=>h) zq ?_
  iterate 25 (first | refine zsR ?_ | refine zsQ ?_)
  refine z29 rfl (by rfl) (fun K hK=>?_);go_wp2_with fail;refine (hmu.out _).mono ?_;rintro en w2 ⟨rfl,rfl⟩;go_wp2_with fail;refine ⟨zq,?_⟩;refine z29 rfl (by rfl) (fun K hK=>?_);go_wp2_with fail;refine (z1j _ _ _).mono ?_;rintro en w11 ⟨rfl,hq⟩;have hsy:=Sat.past (w0:=w0) z6 hq;clear hq hsx;have hsx:=hsy;clear hsy;unfold ftV;go_wp2_with fail;refine ⟨zq,?_⟩;refine z29 rfl (by rfl) (fun K hK=>?_);go_wp2_with fail;refine (hS.out _ z3).mono ?_;rintro en w12 ⟨rfl,hq⟩;have hsy:=Sat.past (w0:=w0) z6 hq;clear hq hsx;have hsx:=hsy;clear hsy;unfold ftV;go_wp2_with fail;refine ⟨zq,?_⟩;refine z29 rfl (by rfl) (fun K hK=>?_);go_wp2_with fail;refine (hQ.out _ z3).mono ?_;rintro en w13 ⟨rfl,hq⟩;have hsy:=Sat.past (w0:=w0) z6 hq;clear hq hsx;have hsx:=hsy;clear hsy;unfold ftV;go_wp2_with fail;refine ⟨zq,?_⟩;refine z29 rfl (by rfl) (fun K hK=>?_);go_wp2_with fail;refine (hM.out _ z3).mono ?_;rintro en w14 ⟨rfl,hq⟩;have hsy:=Sat.past (w0:=w0) z6 hq;clear hq hsx;have hsx:=hsy;clear hsy;unfold ftV;go_wp2_with fail;refine ⟨zq,?_⟩;refine z29 rfl (by rfl) (fun K hK=>?_);go_wp2_with fail;refine (htb.out _).mono ?_;rintro en w2 ⟨rfl,rfl⟩;go_wp2_with fail;refine ⟨zq,?_⟩;refine z29 rfl (by rfl) (fun K hK=>?_);go_wp2_with fail;refine (z1j _ _ _).mono ?_;rintro en w16 ⟨rfl,hq⟩;have hsy:=Sat.past (w0:=w0) z6 hq;clear hq hsx;have hsx:=hsy;clear hsy;unfold ftV;go_wp2_with fail;refine ⟨zq,?_⟩;refine z29 rfl (by rfl) (fun K hK=>?_);go_wp2_with fail;refine (z1j _ _ _).mono ?_;rintro en w17 ⟨rfl,hq⟩;have hsy:=Sat.past (w0:=w0) z6 hq;clear hq hsx;have hsx:=hsy;clear hsy;unfold ftV;go_wp2_with fail;refine ⟨zq,?_⟩;refine z29 rfl (by rfl) (fun K hK=>?_);go_wp2_with fail;refine (hch.out _).mono ?_;rintro en w2 ⟨rfl,rfl⟩;go_wp2_with fail;refine ⟨zq,?_⟩;refine z29 rfl (by rfl) (fun K hK=>?_);go_wp2_with fail;refine (z1j _ _ _).mono ?_;rintro en w19 ⟨rfl,hq⟩;have hsy:=Sat.past (w0:=w0) z6 hq;clear hq hsx;have hsx:=hsy;clear hsy;unfold ftV;go_wp2_with fail;refine ⟨zq,?_⟩
  iterate 1 (first | refine zsR ?_ | refine zsQ ?_)
  refine zB ?_;go_wp2_with fail;refine z9 (w0:=w0) ?_;intro wl hsl;clear hsx
  go_loopw [43] (fun i wr=>∃ k:Nat,k≤7∧i=.int .i64 k∧Sat w0 wr (pts w1.heap.size 0 [.int .i64 (zh c k).err,.int .i64 (zh c k).part,.int .i64 (zh c k).index,.int .i64 (zh c k).at_]*(pts (w0.heap.size+1) 0 [.int .i64 0,.int .i64 0,.int .i64 0,.int .i64 0]*any))) (fun i _=>7-(intOf i).toNat)
  case atStart =>
   have hsl:Sat w0 wl (pts w1.heap.size 0 [.int .i64 (zh c 0).err,.int .i64 (zh c 0).part,.int .i64 (zh c 0).index,.int .i64 (zh c 0).at_]*(pts (w0.heap.size+1) 0 [.int .i64 0,.int .i64 0,.int .i64 0,.int .i64 0]*any)):=by unfold zh;exact z3
   exact ⟨0,by omega,rfl,hsl⟩
  case round =>
   obtain ⟨k,hk,rfl,hsr⟩:=hrel;clear hsl;have hk8:k=0∨k=1∨k=2∨k=3∨k=4∨k=5∨k=6∨k=7:=by omega
   rcases hk8 with rfl | rfl | rfl | rfl | rfl | rfl | rfl | rfl
   ·by_cases e:(zh c 0).err=0
    ·have hx:Hid (zh c 1=z8u (inR c.mutexes 0 32) 3):=hid (if_pos e);go_wp2_with fail;go_roundw
     case rel=>exact ⟨1,by omega,rfl,by rw [hx.out];exact z3⟩
     case measure=>simp [intOf]
    ·have hx:Hid (zh c 1=zh c 0):=hid (if_neg e);have e1:((zh c 0).err==0)=false:=by simp [e]
     clear e;go_wp2_with fail;go_roundw
     case rel=>exact ⟨1,by omega,rfl,by rw [hx.out];exact z3⟩
     case measure=>simp [intOf]
   ·by_cases e:(zh c 1).err=0
    ·have hx:Hid (zh c 2=z84 c.sems 4 0 255):=hid (if_pos e);go_wp2_with fail;go_roundw
     case rel=>exact ⟨2,by omega,rfl,by rw [hx.out];exact z3⟩
     case measure=>simp [intOf]
    ·have hx:Hid (zh c 2=zh c 1):=hid (if_neg e);have e1:((zh c 1).err==0)=false:=by simp [e]
     clear e;go_wp2_with fail;go_roundw
     case rel=>exact ⟨2,by omega,rfl,by rw [hx.out];exact z3⟩
     case measure=>simp [intOf]
   ·by_cases e:(zh c 2).err=0
    ·have hx:Hid (zh c 3=z84 c.queues 5 1 64):=hid (if_pos e);go_wp2_with fail;go_roundw
     case rel=>exact ⟨3,by omega,rfl,by rw [hx.out];exact z3⟩
     case measure=>simp [intOf]
    ·have hx:Hid (zh c 3=zh c 2):=hid (if_neg e);have e1:((zh c 2).err==0)=false:=by simp [e]
     clear e;go_wp2_with fail;go_roundw
     case rel=>exact ⟨3,by omega,rfl,by rw [hx.out];exact z3⟩
     case measure=>simp [intOf]
   ·by_cases e:(zh c 3).err=0
    ·have hx:Hid (zh c 4=z84 c.timers 6 0 (c.sems.length-1)):=hid (if_pos e);go_wp2_with fail;go_roundw
     case rel=>exact ⟨4,by omega,rfl,by rw [hx.out];exact z3⟩
     case measure=>simp [intOf]
    ·have hx:Hid (zh c 4=zh c 3):=hid (if_neg e);have e1:((zh c 3).err==0)=false:=by simp [e]
     clear e;go_wp2_with fail;go_roundw
     case rel=>exact ⟨4,by omega,rfl,by rw [hx.out];exact z3⟩
     case measure=>simp [intOf]
   ·by_cases e:(zh c 4).err=0
    ·have hx:Hid (zh c 5=z8u (inR c.table 0 64) 7):=hid (if_pos e);go_wp2_with fail;go_roundw
     case rel=>exact ⟨5,by omega,rfl,by rw [hx.out];exact z3⟩
     case measure=>simp [intOf]
    ·have hx:Hid (zh c 5=zh c 4):=hid (if_neg e);have e1:((zh c 4).err==0)=false:=by simp [e]
     clear e;go_wp2_with fail;go_roundw
     case rel=>exact ⟨5,by omega,rfl,by rw [hx.out];exact z3⟩
     case measure=>simp [intOf]
   ·by_cases e:(zh c 5).err=0
    ·have hx:Hid (zh c 6=z8u (z5T c) 8):=hid (if_pos e);go_wp2_with fail;go_roundw
     case rel=>exact ⟨6,by omega,rfl,by rw [hx.out];exact z3⟩
     case measure=>simp [intOf]
    ·have hx:Hid (zh c 6=zh c 5):=hid (if_neg e);have e1:((zh c 5).err==0)=false:=by simp [e]
     clear e;go_wp2_with fail;go_roundw
     case rel=>exact ⟨6,by omega,rfl,by rw [hx.out];exact z3⟩
     case measure=>simp [intOf]
   ·by_cases e:(zh c 6).err=0
    ·have hx:Hid (zh c 7=z8u (inR c.charge 0 64) 9):=hid (if_pos e);go_wp2_with fail;go_roundw
     case rel=>exact ⟨7,by omega,rfl,by rw [hx.out];exact z3⟩
     case measure=>simp [intOf]
    ·have hx:Hid (zh c 7=zh c 6):=hid (if_neg e);have e1:((zh c 6).err==0)=false:=by simp [e]
     clear e;go_wp2_with fail;go_roundw
     case rel=>exact ⟨7,by omega,rfl,by rw [hx.out];exact z3⟩
     case measure=>simp [intOf]
   ·go_wp2_with fail
    all_goals
     go_returns;exact ⟨rfl,z3⟩
end Go.Proofs.YtgiiidminlhbpaaGreatDoor
namespace Go.Sx
open Go.RowKit
section
variable {P:Program} {ops:Array Oper} {Q:Exit→Act→World→Prop} {md:Region.Mode} {S:World→Prop} {j0:Nat}
def z0o (P:Program) (ops:Array Oper) (Q:Exit→Act→World→Prop) (S:World→Prop) (j0:Nat):List (Nat×Nat)→Act→World→Prop
 | [],a,w=>Q .normal a w
 | (i,0)::rest,a,w=>∃ o v,ops[i]?=some o∧YieldsIf P ops (fun _=>True) o v a∧z0o P ops Q S j0 rest (a.put o.dst v) w
 | (i,1)::rest,a,w=>∃ o v,ops[i]?=some o∧YieldsIf P ops S o v a∧z0o P ops Q S j0 rest (a.put o.dst v) w
 | (i,2)::rest,a,w=>wpOp P ops Q i (fun a' w'=>S w'∧z0o P ops Q S j0 rest a' w') a w
 | (i,_+3)::rest,a,w=>wpOp P ops Q i (fun a' w'=>z0o P ops Q S j0 rest a' w') a w
def z7q (md:Region.Mode) (ops:Array Oper) (j0:Nat):List (Nat×Nat)→Array Bool→Bool
 | [],listed=>(Region.ready md ops listed).isEmpty
 | (i,0)::rest,listed=>(i != j0) && (Region.ready md ops listed).contains i && Region.free md ops listed i && z7q md ops j0 rest (listed.setIfInBounds i true)
 | (i,1)::rest,listed=>(i != j0) && z56 md ops j0 i && !listed.getD j0 true && (Region.ready md ops listed).contains i && Region.free md ops listed i && z7q md ops j0 rest (listed.setIfInBounds i true)
 | (i,2)::rest,listed=>(i != j0) && (Region.ready md ops listed==[i]) && z7q md ops j0 rest (listed.setIfInBounds i true)
 | (i,_+3)::rest,listed=>(i==j0 || listed.getD j0 false) && (Region.ready md ops listed==[i]) && z7q md ops j0 rest (listed.setIfInBounds i true)
def zaO (ops:Array Oper) (j0:Nat) (plan:List (Nat×Nat)):Bool :=
 Region.noSelect ops && (plan.length==ops.size) && z7q .any ops j0 plan (Array.replicate ops.size false)
theorem z18 (hs:Region.noSelect ops=true) (hQ:∀ (t:Array Value) c (a:Act) w,Q (.panic c) { a with tmps:=t } w→Q (.panic c) a w) :
  ∀ (plan:List (Nat×Nat)) (listed:Array Bool) (a:Act) (w:World),z7q md ops j0 plan listed=true→(listed.getD j0 true=false→S w)→z0o P ops Q S j0 plan a w→z8G P md ops Q S j0 plan.length listed a w
 | [],_,_,_,hB,_,h=>⟨by simpa [z7q] using hB,h⟩
 | (i,0)::rest,listed,a,w,hB,hS,h=>by
  simp only [z7q,Bool.and_eq_true,bne_iff_ne] at hB;obtain ⟨⟨⟨h0,hr⟩,hf⟩,hB'⟩:=hB;obtain ⟨o,v,ho,hy,h'⟩:=h;refine z2E ho (Region.noSelect_spec hs) (fun c a w hq=>by
   cases hd:o.dst with
   | none=>rw [hd] at hq;exact hq
   | some d=>rw [hd] at hq;exact hQ _ c a w hq) h0 (.inl fun _=>trivial) _ _ _ _ (Region.free_spec ho hf) (by simpa using hr) (.inl fun _=>trivial) hy hS
   (z18 hs hQ rest _ _ _ hB' (fun hl=>hS (by rw [getD_set_ne true h0] at hl;exact hl)) h')
 | (i,1)::rest,listed,a,w,hB,hS,h=>by
  simp only [z7q,Bool.and_eq_true,bne_iff_ne,Bool.not_eq_true'] at hB;obtain ⟨⟨⟨⟨⟨h0,hw⟩,hl⟩,hr⟩,hf⟩,hB'⟩:=hB;obtain ⟨o,v,ho,hy,h'⟩:=h;refine z2E ho (Region.noSelect_spec hs) (fun c a w hq=>by
   cases hd:o.dst with
   | none=>rw [hd] at hq;exact hq
   | some d=>rw [hd] at hq;exact hQ _ c a w hq) h0 (.inr ⟨fun _ h=>h,hw⟩) _ _ _ _ (Region.free_spec ho hf) (by simpa using hr) (.inr hl) hy hS
   (z18 hs hQ rest _ _ _ hB' (fun hl=>hS (by rw [getD_set_ne true h0] at hl;exact hl)) h')
 | (i,2)::rest,listed,a,w,hB,hS,h=>by
  simp only [z7q,Bool.and_eq_true,beq_iff_eq,bne_iff_ne] at hB;obtain ⟨⟨h0,hr⟩,hB'⟩:=hB;refine ⟨fun h0=>(by rw [hr] at h0;cases h0),fun j hj=>?_⟩;rw [hr] at hj;have:j=i:=by simpa using hj
  subst this;exact wpOp_mono (fun a' w' h'=>⟨fun _ _=>h'.1,z18 hs hQ rest _ _ _ hB' (fun _=>h'.1) h'.2⟩) h
 | (i,n+3)::rest,listed,a,w,hB,hS,h=>by
  simp only [z7q,Bool.and_eq_true,beq_iff_eq,Bool.or_eq_true] at hB;obtain ⟨⟨h0,hr⟩,hB'⟩:=hB;refine ⟨fun h0=>(by rw [hr] at h0;cases h0),fun j hj=>?_⟩;rw [hr] at hj;have:j=i:=by simpa using hj
  subst this;have hjr:j∈Region.ready md ops listed:=by rw [hr];simp
  have hno:∀ (l:Array Bool),l.getD j0 false=true→¬ l.getD j0 true=false:=fun l h1 h2=>by
   rcases Nat.lt_or_ge j0 l.size with h' | h'
   ·simp [h'] at h1 h2;rw [h1] at h2;cases h2
   ·simp [Array.getElem?_eq_none h'] at h1
  refine wpOp_mono (fun a' w' h'=>⟨fun hn hl=>?_,z18 hs hQ rest _ _ _ hB' (fun hl=>?_) h'⟩) h
  ·rcases h0 with h0 | h0
   ·exact absurd h0 hn
   ·exact absurd hl (hno _ h0)
  ·rcases h0 with h0 | h0
   ·subst h0;rw [z44 (mem_ready.1 hjr).1] at hl
    cases hl
   ·by_cases hj0:j=j0
    ·subst hj0;rw [z44 (mem_ready.1 hjr).1] at hl
     cases hl
    ·rw [getD_set_ne true hj0] at hl;exact absurd hl (hno _ h0)
theorem zv {id:Nat} {a:Act} {w:World} (S:World→Prop) (j0:Nat) (plan:List (Nat×Nat)) (hm:P.follows .mixedOrders=true) (hB:zaO ops j0 plan=true)
  (hQ:∀ (t:Array Value) c (a:Act) w,Q (.panic c) { a with tmps:=t } w→Q (.panic c) a w) (hS:S w.drew) (h:z0o P ops Q S j0 plan a w.drew):(Code.region id ops true).wp P Q a w:=by
 simp only [zaO,Bool.and_eq_true,beq_iff_eq] at hB;obtain ⟨⟨h1,h2⟩,h3⟩:=hB;refine wp_region_any hm (z3k (S:=S) (j0:=j0) _ _ _ _ ?_);rw [← h2];rw [← h2] at h3;exact z18 h1 hQ plan _ a w.drew h3 (fun _=>hS) h
theorem z4Q {w0 w:World} {R:HP} {plan:List (Nat×Nat)} {a:Act} [h:Sat w0 w R] (k:∀ wx,Sat w0 wx R→z0o P ops Q S j0 plan a wx):z0o P ops Q S j0 plan a w:=k w h
theorem z0a {a:Act} {w:World} (h:Q .normal a w):z0o P ops Q S j0 [] a w:=h
section
variable {l:List Oper} {i n:Nat} {rest:List (Nat×Nat)} {a:Act} {w:World}
theorem zn (h:∀ K:Act→Prop,(∀ a,z0o P l.toArray Q S j0 rest a w→K a)→match l[i]? with
  | none=>False
  | some o=>if Region.wanted o (yielded l.toArray a.tmps)=true then ∃ v,(∀ w,True→(execOp a.eval o).run P w=.ok (.value v) w)∧K (a.put o.dst v) else K (a.put o.dst undef)) :
  z0o P l.toArray Q S j0 ((i,0)::rest) a w:=by
 have h:=h _ fun _ h=>h
 cases ho:l[i]? with
 | none=>rw [ho] at h;exact h.elim
 | some o =>
  rw [ho] at h;have h:if Region.wanted o (yielded l.toArray a.tmps)=true then _ else _:=h
  by_cases hw:Region.wanted o (yielded l.toArray a.tmps)=true
  ·rw [if_pos hw] at h;obtain ⟨v,h1,h2⟩:=h;exact ⟨o,v,by simpa using ho,.inl ⟨hw,h1⟩,h2⟩
  ·rw [if_neg hw] at h;exact ⟨o,undef,by simpa using ho,.inr ⟨by simpa using hw,rfl⟩,h⟩
theorem zo (h:∀ K:Act→Prop,(∀ a,z0o P l.toArray Q S j0 rest a w→K a)→match l[i]? with
  | none=>False
  | some o=>if Region.wanted o (yielded l.toArray a.tmps)=true then ∃ v,(∀ w,S w→(execOp a.eval o).run P w=.ok (.value v) w)∧K (a.put o.dst v) else K (a.put o.dst undef)) :
  z0o P l.toArray Q S j0 ((i,1)::rest) a w:=by
 have h:=h _ fun _ h=>h
 cases ho:l[i]? with
 | none=>rw [ho] at h;exact h.elim
 | some o =>
  rw [ho] at h;have h:if Region.wanted o (yielded l.toArray a.tmps)=true then _ else _:=h
  by_cases hw:Region.wanted o (yielded l.toArray a.tmps)=true
  ·rw [if_pos hw] at h;obtain ⟨v,h1,h2⟩:=h;exact ⟨o,v,by simpa using ho,.inl ⟨hw,h1⟩,h2⟩
  ·rw [if_neg hw] at h;exact ⟨o,undef,by simpa using ho,.inr ⟨by simpa using hw,rfl⟩,h⟩
theorem z0L (h:∀ K:Act→World→Prop,(∀ a w,S w∧z0o P l.toArray Q S j0 rest a w→K a w)→match l[i]? with
  | none=>False
  | some o=>if Region.wanted o (yielded l.toArray a.tmps)=true then o.wp P a w K Q else K (a.put o.dst undef) w) :
  z0o P l.toArray Q S j0 ((i,2)::rest) a w:=by
 have h:=h _ fun _ _ h=>h;show wpOp P l.toArray Q i _ a w;unfold wpOp;have e:l.toArray[i]?=l[i]?:=by simp
 rw [e]
 cases ho:l[i]? with
 | none=>rw [ho] at h;exact h.elim
 | some o =>
  rw [ho] at h;have h:if Region.wanted o (yielded l.toArray a.tmps)=true then _ else _:=h;show if Region.wanted o (yielded l.toArray a.tmps)=true then _ else _
  by_cases hw:Region.wanted o (yielded l.toArray a.tmps)=true
  ·rw [if_pos hw] at h ⊢;exact .inl h
  ·rw [if_neg hw] at h ⊢;exact h
theorem z14 (h:∀ K:Act→World→Prop,(∀ a w,z0o P l.toArray Q S j0 rest a w→K a w)→match l[i]? with
  | none=>False
  | some o=>if Region.wanted o (yielded l.toArray a.tmps)=true then o.wp P a w K Q else K (a.put o.dst undef) w) :
  z0o P l.toArray Q S j0 ((i,n+3)::rest) a w:=by
 have h:=h _ fun _ _ h=>h;show wpOp P l.toArray Q i _ a w;unfold wpOp;have e:l.toArray[i]?=l[i]?:=by simp
 rw [e]
 cases ho:l[i]? with
 | none=>rw [ho] at h;exact h.elim
 | some o =>
  rw [ho] at h;have h:if Region.wanted o (yielded l.toArray a.tmps)=true then _ else _:=h;show if Region.wanted o (yielded l.toArray a.tmps)=true then _ else _
  by_cases hw:Region.wanted o (yielded l.toArray a.tmps)=true
  ·rw [if_pos hw] at h ⊢;exact .inl h
  ·rw [if_neg hw] at h ⊢;exact h
theorem zpE {o:Oper} (ho:l[i]?=some o) (hw:Region.wanted o (yielded l.toArray a.tmps)=true) (h:∃ v,(∀ w,True→(execOp a.eval o).run P w=.ok (.value v) w)∧z0o P l.toArray Q S j0 rest (a.put o.dst v) w):z0o P l.toArray Q S j0 ((i,0)::rest) a w :=
 zn fun K hK=>by rw [ho];dsimp only;rw [if_pos hw];obtain ⟨v,hv,hk⟩:=h;exact ⟨v,hv,hK _ hk⟩
theorem zpD {o:Oper} (ho:l[i]?=some o) (hw:Region.wanted o (yielded l.toArray a.tmps)=false) (hk:z0o P l.toArray Q S j0 rest (a.put o.dst undef) w):z0o P l.toArray Q S j0 ((i,0)::rest) a w :=
 zn fun K hK=>by rw [ho];dsimp only;rw [if_neg (ne_true_of_eq_false hw)];exact hK _ hk
theorem zpG {o:Oper} (ho:l[i]?=some o) (hw:Region.wanted o (yielded l.toArray a.tmps)=true) (h:∃ v,(∀ w,S w→(execOp a.eval o).run P w=.ok (.value v) w)∧z0o P l.toArray Q S j0 rest (a.put o.dst v) w):z0o P l.toArray Q S j0 ((i,1)::rest) a w :=
 zo fun K hK=>by rw [ho];dsimp only;rw [if_pos hw];obtain ⟨v,hv,hk⟩:=h;exact ⟨v,hv,hK _ hk⟩
theorem zpF {o:Oper} (ho:l[i]?=some o) (hw:Region.wanted o (yielded l.toArray a.tmps)=false) (hk:z0o P l.toArray Q S j0 rest (a.put o.dst undef) w):z0o P l.toArray Q S j0 ((i,1)::rest) a w :=
 zo fun K hK=>by rw [ho];dsimp only;rw [if_neg (ne_true_of_eq_false hw)];exact hK _ hk
theorem zsW {o:Oper} {v:Value} {a':Act} (h:z0o P l.toArray Q S j0 rest a' w) (ho:l[i]?=some o:=by rfl) (hw:Region.wanted o (yielded l.toArray a.tmps)=true:=by rfl)
  (hx:∀ w,True→(execOp a.eval o).run P w=.ok (.value v) w:=by intro w hSw; (try dsimp only at hSw);go_simp;try with_reducible rfl) (ha:a.put o.dst v=a':=by simp only [Act.put,zqA,zqP,zqQ];rfl):z0o P l.toArray Q S j0 ((i,0)::rest) a w :=
 zpE ho hw ⟨v,hx,by rw [ha];exact h⟩
theorem zsV {o:Oper} {a':Act} (h:z0o P l.toArray Q S j0 rest a' w) (ho:l[i]?=some o:=by rfl) (hw:Region.wanted o (yielded l.toArray a.tmps)=false:=by rfl) (ha:a.put o.dst undef=a':=by simp only [Act.put,zqA,zqP,zqQ];rfl):z0o P l.toArray Q S j0 ((i,0)::rest) a w :=
 zpD ho hw (by rw [ha];exact h)
theorem zsY {o:Oper} {v:Value} {a':Act} (h:z0o P l.toArray Q S j0 rest a' w) (ho:l[i]?=some o:=by rfl) (hw:Region.wanted o (yielded l.toArray a.tmps)=true:=by rfl)
  (hx:∀ w,S w→(execOp a.eval o).run P w=.ok (.value v) w:=by intro w hSw; (try dsimp only at hSw);go_simp;try with_reducible rfl) (ha:a.put o.dst v=a':=by simp only [Act.put,zqA,zqP,zqQ];rfl):z0o P l.toArray Q S j0 ((i,1)::rest) a w :=
 zpG ho hw ⟨v,hx,by rw [ha];exact h⟩
theorem zsX {o:Oper} {a':Act} (h:z0o P l.toArray Q S j0 rest a' w) (ho:l[i]?=some o:=by rfl) (hw:Region.wanted o (yielded l.toArray a.tmps)=false:=by rfl) (ha:a.put o.dst undef=a':=by simp only [Act.put,zqA,zqP,zqQ];rfl):z0o P l.toArray Q S j0 ((i,1)::rest) a w :=
 zpF ho hw (by rw [ha];exact h)
theorem zpR {o:Oper} (ho:l[i]?=some o) (hw:Region.wanted o (yielded l.toArray a.tmps)=true) (h:∀ K:Act→World→Prop,(∀ a w,S w∧z0o P l.toArray Q S j0 rest a w→K a w)→o.wp P a w K Q):z0o P l.toArray Q S j0 ((i,2)::rest) a w :=
 z0L fun K hK=>by rw [ho];dsimp only;rw [if_pos hw];exact h K hK
end
end
end Go.Sx
namespace Go.Proofs.YtgiiidminlhbpaaGreatDoor
open Go.RowKit Go.Sx Go.Dl Go.Lk Go.Rq Go.Au
theorem zlI:z1m Tryz.prog 65 73 6 48 (.agg #[.int .i64 0,.int .i64 0,.int .i64 0,.int .i64 0,.int .i64 0,.int .u32 0]):=⟨by kernel_rfl,by kernel_rfl,rfl⟩
theorem zlM:z1m Tryz.prog 22 67 6 64 (.agg #[.int .i64 0,.int .i64 0,.int .i64 0,.int .i64 0,.int .i64 0,.slice none 0 0]):=⟨by kernel_rfl,by kernel_rfl,rfl⟩
theorem zlJ:z1m Tryz.prog 23 70 2 32 (.agg #[.int .i64 0,.slice none 0 0]):=⟨by kernel_rfl,by kernel_rfl,rfl⟩
theorem zcD (v:Value) (l:List Ins) (w0 w:World) (F:HP) (hs:Sat w0 w F) (h:RdR w v l) (hl:l.length≤1000000) :
  Calls Tryz.prog 15 #[v] w (Ret w0 fun v'=>z7 v' l*F):=by
 obtain ⟨a,cap,b,off,rfl,hcap,hbig,ha,hc⟩:=id h;have hnw:=h.news;clear hc ha;have q:∀ (w:World) (a:Option Addr) (n c:Nat),(binOp .eql 65 (.slice a n c) (.slice none 0 0)).run Tryz.prog w=.ok (.bool a.isNone) w:=fun w a n c=>Lib.run_eql_slice_nil w _ _ a n c 0 0 Tryz.underlying65
 cases a with
 | none =>
  have h0:=hnw.2.1 rfl;have hl0:l=[]:=List.eq_nil_of_length_eq_zero h0;subst hl0;clear h hnw
  go_enter Tryz.func15,Tryz.ntmps15
  go_wp2;go_ret;exact ⟨_,rfl,hs.slice_nil 6⟩
 | some ad =>
  go_enter Tryz.func15,Tryz.ntmps15
  go_wp2_with (at_builtin;refine z00 (by rfl) (.tmp 5) (.tmp 6) (by rfl) zlI (by rfl) (hs.empty_slice 6 73) (some ad) l.length cap (cellsOf l) (by rfl) (by rw [zJ]) (by simp) (fun a' ha' j u hj=>z1i (hnw.2.2 a' ha' j u hj) _) (z1f l) (by unfold maxLen;omega) (by omega) ?_);intro v' w' hs' _;go_wp2;go_ret;exact ⟨_,rfl,by simpa [z7] using hs'⟩
theorem zjK (v:Value) (l:List Tv) (w0 w:World) (F:HP) (hs:Sat w0 w F) (h:RdR w v l) (hl:l.length≤1000000) :
  Calls Tryz.prog 13 #[v] w (Ret w0 fun v'=>z7 v' l*F):=by
 obtain ⟨a,cap,b,off,rfl,hcap,hbig,ha,hc⟩:=id h;have hnw:=h.news;clear hc ha;have q:∀ (w:World) (a:Option Addr) (n c:Nat),(binOp .eql 22 (.slice a n c) (.slice none 0 0)).run Tryz.prog w=.ok (.bool a.isNone) w:=fun w a n c=>Lib.run_eql_slice_nil w _ _ a n c 0 0 Tryz.underlying22
 cases a with
 | none =>
  have h0:=hnw.2.1 rfl;have hl0:l=[]:=List.eq_nil_of_length_eq_zero h0;subst hl0;clear h hnw
  go_enter Tryz.func13,Tryz.ntmps13
  go_wp2;go_ret;exact ⟨_,rfl,hs.slice_nil 6⟩
 | some ad =>
  go_enter Tryz.func13,Tryz.ntmps13
  go_wp2_with (at_builtin;refine z00 (by rfl) (.tmp 5) (.tmp 6) (by rfl) zlM (by rfl) (hs.empty_slice 6 67) (some ad) l.length cap (cellsOf l) (by rfl) (by rw [zJ]) (by simp) (fun a' ha' j u hj=>z1i (hnw.2.2 a' ha' j u hj) _) (z1f l) (by unfold maxLen;omega) (by omega) ?_);intro v' w' hs' _;go_wp2;go_ret;exact ⟨_,rfl,by simpa [z7] using hs'⟩
theorem zjJ (v:Value) (l:List Lv) (w0 w:World) (F:HP) (hs:Sat w0 w F) (h:RdR w v l) (hl:l.length≤1000000) :
  Calls Tryz.prog 14 #[v] w (Ret w0 fun v'=>z7 v' l*F):=by
 obtain ⟨a,cap,b,off,rfl,hcap,hbig,ha,hc⟩:=id h;have hnw:=h.news;clear hc ha;have q:∀ (w:World) (a:Option Addr) (n c:Nat),(binOp .eql 23 (.slice a n c) (.slice none 0 0)).run Tryz.prog w=.ok (.bool a.isNone) w:=fun w a n c=>Lib.run_eql_slice_nil w _ _ a n c 0 0 Tryz.underlying23
 cases a with
 | none =>
  have h0:=hnw.2.1 rfl;have hl0:l=[]:=List.eq_nil_of_length_eq_zero h0;subst hl0;clear h hnw
  go_enter Tryz.func14,Tryz.ntmps14
  go_wp2;go_ret;exact ⟨_,rfl,hs.slice_nil 2⟩
 | some ad =>
  go_enter Tryz.func14,Tryz.ntmps14
  go_wp2_with (at_builtin;refine z00 (by rfl) (.tmp 5) (.tmp 6) (by rfl) zlJ (by rfl) (hs.empty_slice 2 70) (some ad) l.length cap (cellsOf l) (by rfl) (by rw [zJ]) (by simp) (fun a' ha' j u hj=>z1i (hnw.2.2 a' ha' j u hj) _) (z1f l) (by unfold maxLen;omega) (by omega) ?_);intro v' w' hs' _;go_wp2;go_ret;exact ⟨_,rfl,by simpa [z7] using hs'⟩
theorem z2T {α:Type} {sz:Nat} [E:Enc α sz] {w0 w:World} {F:HP} {v:Value} {l:List α} (hs:Sat w0 w (z7 v l*F)):∃ h:Hd,v=h.v l.length∧(l.length≤h.cap∧h.cap≤maxLen)∧Sat w0 w (pts h.b h.o (cellsOf l)*F):=by
 rcases hs.slice_out with ⟨rfl,h0,h1,h2⟩ | ⟨g,off,cap,sp,rfl,hc,hcm,hx,hsp,hs'⟩
 ·refine ⟨⟨none,0,0,0⟩,by rw [h0];rfl,⟨by rw [h0];exact Nat.le_refl _,Nat.zero_le _⟩,?_⟩;rw [h1,z3R];exact h2.perm (zm _).symm
 ·refine ⟨⟨some ⟨g,off,none⟩,g,off,cap⟩,by simp [Hd.v,Hd.ad],⟨hc,hcm⟩,?_⟩;rw [zd] at hs';exact (hs'.perm (by ac_rfl:_=pts g (off+(cellsOf l).length) sp*(pts g off (cellsOf l)*F))).drop
theorem zg5 {κ:IntKind} {w0 w:World} {F:HP} {v:Value} {l:List Int} (hs:Sat w0 w (z5 κ v l*F)):∃ h:Hd,v=h.v l.length∧(l.length≤h.cap∧h.cap≤maxLen)∧Sat w0 w (pts h.b h.o (l.map (Value.int κ))*F):=by
 rcases hs.slice_out with ⟨rfl,h0,h1,h2⟩ | ⟨g,off,cap,sp,rfl,hc,hcm,hx,hsp,hs'⟩
 ·refine ⟨⟨none,0,0,0⟩,by rw [h0];rfl,⟨by rw [h0];exact Nat.le_refl _,Nat.zero_le _⟩,?_⟩;rw [h1,z3R];exact h2.perm (zm _).symm
 ·refine ⟨⟨some ⟨g,off,none⟩,g,off,cap⟩,by simp [Hd.v,Hd.ad],⟨hc,hcm⟩,?_⟩;rw [zd] at hs';exact (hs'.perm (by ac_rfl:_=pts g (off+(l.map (Value.int κ)).length) sp*(pts g off (l.map (Value.int κ))*F))).drop
theorem z5c {α:Type} {sz:Nat} [E:Enc α sz] (b o:Nat) (l:List α):pts b o (cellsOf l)=z0F (fun t=>pts b (o+t*sz) (E.enc (l.getD t E.dft))) l.length:=by
 have key:∀ n,n≤l.length→pts b o (cellsOf (l.take n))=z0F (fun t=>pts b (o+t*sz) (E.enc (l.getD t E.dft))) n:=by
  intro n
  induction n with
  | zero=>intro _;rw [List.take_zero,z1e,z3R];rfl
  | succ n ih =>
   intro hn;have e:l.take (n+1)=l.take n++[l.getD n E.dft]:=by
    rw [List.take_add_one];have:n<l.length:=by omega
    simp [this]
   rw [e,z0g,zd,ih (by omega),z0G,zJ,List.length_take,Nat.min_eq_left (by omega)]
   congr 1
   rw [zy,z1e,List.append_nil]
 have:=key l.length (Nat.le_refl _)
 rwa [List.take_length] at this
theorem z36 (f g:Nat→HP):∀ n,z0F f n*z0F g n=z0F (fun t=>f t*g t) n
 | 0=>zm _
 | n+1=>by rw [z0G,z0G,z0G,← z36 f g n];ac_rfl
structure z5a (c:Cf):Prop where
 t:c.ts.length≤1000
 l:c.ls.length≤1000
 s:c.sems.length≤1000
 q:c.queues.length≤1000
 m:c.timers.length≤1000
 tc:∀ t,t<c.ts.length→(tcg c t).code.length≤100000
 lc:∀ t,t<c.ls.length→(lcg c t).code.length≤100000
structure zn9 (h:Hd) (v:Tv) (t:Tc):Prop where
 enc:z8Q.enc v=tcL h t
 cap:t.code.length≤h.cap∧h.cap≤maxLen
structure zn8 (h:Hd) (v:Lv) (t:Lc):Prop where
 enc:z8P.enc v=lcL h t
 cap:t.code.length≤h.cap∧h.cap≤maxLen
structure zjx (x:Cx0) (c:Cf):Prop where
 ct:c.ts.length≤x.ct.cap∧x.ct.cap≤maxLen
 cl:c.ls.length≤x.cl.cap∧x.cl.cap≤maxLen
 cs:c.sems.length≤x.cs.cap∧x.cs.cap≤maxLen
 cq:c.queues.length≤x.cq.cap∧x.cq.cap≤maxLen
 cm:c.timers.length≤x.cm.cap∧x.cm.cap≤maxLen
 tv:∀ t,t<c.ts.length→(tcg c t).code.length≤(x.tv t).cap∧(x.tv t).cap≤maxLen
 lv:∀ t,t<c.ls.length→(lcg c t).code.length≤(x.lv t).cap∧(x.lv t).cap≤maxLen
theorem z6m {α:Type} {l:List α} {k t:Nat} {x d:α} (hk:k<l.length):(l.set k x).getD t d=if t=k then x else l.getD t d:=by
 by_cases e:t=k
 ·subst e;rw [if_pos rfl];simp [List.getD,hk]
 ·rw [if_neg e];simp [List.getD,List.getElem?_set_ne (Ne.symm e)]
theorem zlE {b o:Nat} {c:Cf} {l:List Tv} {hd:Nat→Hd} (hl:l.length=c.ts.length) (h:∀ t,t<c.ts.length→zn9 (hd t) (l.getD t tv0) (tcg c t)) :
  pts b o (cellsOf l)*z0F (fun t=>pts (hd t).b (hd t).o (cellsOf (tcg c t).code)) c.ts.length=z0F (fun t=>pts b (o+t*6) (tcL (hd t) (tcg c t))*pts (hd t).b (hd t).o (cellsOf (tcg c t).code)) c.ts.length:=by
 rw [z5c,hl,← z36]
 congr 1
 exact zS fun t ht=>by rw [show (Enc.dft:Tv)=tv0 from rfl,(h t ht).enc]
theorem zlD {b o:Nat} {c:Cf} {l:List Lv} {hd:Nat→Hd} (hl:l.length=c.ls.length) (h:∀ t,t<c.ls.length→zn8 (hd t) (l.getD t lv0) (lcg c t)) :
  pts b o (cellsOf l)*z0F (fun t=>pts (hd t).b (hd t).o (cellsOf (lcg c t).code)) c.ls.length=z0F (fun t=>pts b (o+t*2) (lcL (hd t) (lcg c t))*pts (hd t).b (hd t).o (cellsOf (lcg c t).code)) c.ls.length:=by
 rw [z5c,hl,← z36]
 congr 1
 exact zS fun t ht=>by rw [show (Enc.dft:Lv)=lv0 from rfl,(h t ht).enc]
theorem z6h {f:Nat→Hd→HP} {hd:Nat→Hd} {k:Nat} {h:Hd}:z0F (fun t=>f t (upd hd k h t)) (k+1)=z0F (fun t=>f t (hd t)) k*f k h:=by
 rw [z0G,zK]
 congr 1
 exact zS fun t ht=>by rw [zL _ _ (by omega)]
theorem mpS {w0 w:World} {P Q:HP} (hs:Sat w0 w P) (k:Sat w0 w P→Sat w0 w Q):Sat w0 w Q:=k hs
theorem zcG (v:Value) (c:Cf) (sm:z5a c) (w0:World) (hr:z8I w0 v c) :
  Calls Tryz.prog 6 #[v] w0 (Ret w0 fun v'=>ex fun x:Cx0=>pur (v'=.agg (cfL x c).toArray∧zjx x c)*cfH x c):=by
 have hs:=Sat.start w0;obtain ⟨ta,la,sa,qa,ma,tc,lc,sc,qc,mc,rfl,⟨T,hT,hTn,hTi⟩,⟨L,hL,hLn,hLi⟩,hS,hQ,hM⟩:=hr.form;have cT:=hid (fun (w:World) (G:HP) (hs:Sat w0 w (pts w0.heap.size 0 [.slice ta c.ts.length tc,.slice la c.ls.length lc,.int .i64 c.mutexes,.slice sa c.sems.length sc,.slice qa c.queues.length qc,.slice ma c.timers.length mc,.int .i64 c.table,.int .u32 c.mask,.int .u32 c.filter,.int .i64 c.charge,.int .u64 c.cycle,.int .u64 c.count]*G))=>zjK _ T w0 w _ hs (hT.later hs) (by have:=sm.t;omega));have cL:=hid (fun (w:World) (G:HP) (hs:Sat w0 w (pts w0.heap.size 0 [.slice ta c.ts.length tc,.slice la c.ls.length lc,.int .i64 c.mutexes,.slice sa c.sems.length sc,.slice qa c.queues.length qc,.slice ma c.timers.length mc,.int .i64 c.table,.int .u32 c.mask,.int .u32 c.filter,.int .i64 c.charge,.int .u64 c.cycle,.int .u64 c.count]*G))=>zjJ _ L w0 w _ hs (hL.later hs) (by have:=sm.l;omega));clear hr;have HTn:=hid hTn;have HLn:=hid hLn;have HTi:=hid hTi;have HLi:=hid hLi;have Hsm:=hid sm;have HS:=hid hS;have HQ:=hid hQ;have HM:=hid hM;have hst:=sm.t;have hsl:=sm.l;clear hT hL hTn hLn hTi hLi sm hS hQ hM
 go_enter Tryz.func6,Tryz.ntmps6
 go_wp2_with fail;refine z9 (w0:=w0) ?_;intro wx hsx;clear hs;refine zv (fun w'=>w'.cell? ⟨w0.heap.size,0,none⟩=some (.slice ta c.ts.length tc)∧w'.cell? ⟨w0.heap.size,1,none⟩=some (.slice la c.ls.length lc)) 7 [(0,0),(1,1),(3,0),(4,1),(2,2),(6,0),(5,2),(7,3),(8,0),(9,3)] (by kernel_rfl) (by kernel_rfl) (fun _ _ _ _ h=>h) ⟨z4,z4⟩ ?_
 iterate 4 (first | refine zsW ?_ | refine zsY ?_ | refine zsV ?_ | refine zsX ?_)
 refine zpR rfl (by rfl) (fun K hK=>?_);go_wp2_with fail;refine (cT.out _ _ own).mono ?_;rintro en w1 ⟨v1,rfl,hs1⟩;clear hsx;obtain ⟨ta1,tc1,rfl⟩:=hs1.slice_form;rw [HTn.out] at hs1 ⊢;go_wp2_with fail;refine ⟨⟨z4,z4⟩,?_⟩
 iterate 1 (first | refine zsW ?_ | refine zsY ?_ | refine zsV ?_ | refine zsX ?_)
 refine zpR rfl (by rfl) (fun K hK=>?_);go_wp2_with fail;refine (cL.out _ _ own).mono ?_;rintro en w2 ⟨v2,rfl,hs2⟩;clear hs1;obtain ⟨la1,lc1,rfl⟩:=hs2.slice_form;rw [HLn.out] at hs2 ⊢;go_wp2_with fail;refine ⟨⟨z4,z4⟩,?_⟩;refine z14 (fun K hK=>?_);simp only [zqS,zqZ];rw [if_pos (by rfl)];go_wp2_with fail
 iterate 1 (first | refine zsW ?_ | refine zsY ?_ | refine zsV ?_ | refine zsX ?_)
 refine z14 (fun K hK=>?_);simp only [zqS,zqZ];rw [if_pos (by rfl)];go_wp2_with fail;refine z0a ?_;go_wp2_with fail;refine z9 (w0:=w0) ?_;intro w3 hs3;clear hs2
 go_loopw [16] (fun i wr=>∃ k:Nat, ∃ l:List Tv, ∃ hd:Nat→Hd,k≤c.ts.length∧i=.int .i64 k∧l.length=c.ts.length∧(∀ t,t<k→zn9 (hd t) (l.getD t tv0) (tcg c t))∧(∀ t,k≤t→t<c.ts.length→l.getD t tv0=T.getD t tv0)∧Sat w0 wr (z7 (.slice ta1 c.ts.length tc1) l*(pts w0.heap.size 0 [.slice ta1 c.ts.length tc1,.slice la1 c.ls.length lc1,.int .i64 c.mutexes,.slice sa c.sems.length sc,.slice qa c.queues.length qc,.slice ma c.timers.length mc,.int .i64 c.table,.int .u32 c.mask,.int .u32 c.filter,.int .i64 c.charge,.int .u64 c.cycle,.int .u64 c.count]*(pts (w0.heap.size+1) 0 [.slice none 0 0,.slice none 0 0,.int .i64 0,.slice none 0 0,.slice none 0 0,.slice none 0 0,.int .i64 0,.int .u32 0,.int .u32 0,.int .i64 0,.int .u64 0,.int .u64 0]*(z0F (fun t=>pts (hd t).b (hd t).o (cellsOf (tcg c t).code)) k*(z7 (.slice la1 c.ls.length lc1) L*emp)))))) (fun i _=>c.ts.length-(intOf i).toNat)
 case atStart=>exact ⟨0,T,fun _=>⟨none,0,0,0⟩,Nat.zero_le _,rfl,HTn.out,fun t ht=>absurd ht (by omega),fun _ _ _=>rfl,hs3.perm (by show _=_*(_*(_*(emp*(_*emp))));rw [zm];ac_rfl)⟩
 case round =>
  obtain ⟨k,l,hd,hk,rfl,hln,hlo,hlk,hsr⟩:=hrel;clear hs3
  by_cases hlt:k<c.ts.length
  ·have d3:decide (k<c.ts.length)=true:=decide_eq_true hlt;have i3:(k:Int)<(c.ts.length:Int):=by omega
   have hit:=HTi.out k hlt;have hcl:=Hsm.out.tc k hlt;obtain ⟨u,hu⟩:∃ u,u=T.getD k tv0:=⟨_,rfl⟩;rw [← hu] at hit;obtain ⟨a7,cap7,g,off,e7,_,_,ha7,_⟩:=hsr.rdR;rw [hln] at e7;obtain ⟨rfl, -,rfl⟩:ta1=a7∧c.ts.length=c.ts.length∧tc1=cap7:=by simpa using e7
   obtain rfl:=ha7 (by intro h;simp [h] at hln;omega);clear ha7 e7;haveI:Lt k l.length:=⟨by rw [hln];exact hlt⟩;haveI e5:z1v (l.getD k tv0) 5 (.slice u.ca u.cn u.cc):=⟨by rw [hlk k (Nat.le_refl _) hlt,← hu];rfl⟩;have hC:=hid (fun (w:World) (G:HP) (hs:Sat w0 w (z7 (.slice (some ⟨g,off,none⟩) c.ts.length tc1) l*G))=>zcD _ (tcg c k).code w0 w _ hs (hit.code.later hs) (by omega));have Hlo:=hid hlo;have Hlk:=hid hlk;have Hu:=hid hu;have Hit:=hid hit;have Hln:=hid hln;clear hlo hlk hu hit hcl hln;unfold Tv.cv at hC;go_wp2_with fail;refine z9 (w0:=w0) ?_;intro wy hsy;clear hsr;refine zv (fun w'=>w'.cell? ⟨w0.heap.size,0,none⟩=some (.slice (some ⟨g,off,none⟩) c.ts.length tc1)∧w'.cell? ⟨g,off+k*6+5,none⟩=some (.slice u.ca u.cn u.cc)) 12 [(0,0),(1,1),(2,0),(3,0),(4,1),(5,0),(6,0),(7,0),(8,1),(9,2),(10,0),(11,0),(12,3)] (by kernel_rfl) (by kernel_rfl) (fun _ _ _ _ h=>h) ⟨z4,z4⟩ ?_
   iterate 9 (first | refine zsW ?_ | refine zsY ?_ | refine zsV ?_ | refine zsX ?_)
   refine zpR rfl (by rfl) (fun K hK=>?_);go_wp2_with fail;refine (hC.out _ _ own).mono ?_;rintro en w4 ⟨v4,rfl,hs4⟩;clear hsy;obtain ⟨hd',rfl,hcap,hs5⟩:=z2T hs4;have Hcap:=hid hcap;clear hcap;clear hs4;go_wp2_with fail;refine ⟨⟨z4,z4⟩,?_⟩
   iterate 2 (first | refine zsW ?_ | refine zsY ?_ | refine zsV ?_ | refine zsX ?_)
   haveI e6:z4e (l.getD k tv0) 5 (.slice (hd'.ad (tcg c k).code.length) (tcg c k).code.length hd'.cap) { l.getD k tv0 with ca:=hd'.ad (tcg c k).code.length,cn:=(tcg c k).code.length,cc:=hd'.cap }:=⟨rfl,by decide⟩;refine z14 (fun K hK=>?_);simp only [zqS,zqZ];rw [if_pos (by rfl)];go_wp2_with fail;refine z0a ?_;go_wp2_with fail;go_roundw
   case rel =>
    have hlt:=hlt;have hln:=Hln.out;have hlk:=Hlk.out;have hu:=Hu.out;have hit:=Hit.out;refine ⟨k+1,l.set k { l.getD k tv0 with ca:=hd'.ad (tcg c k).code.length,cn:=(tcg c k).code.length,cc:=hd'.cap },upd hd k hd',by omega,by go_num,by rw [List.length_set];exact hln,fun t ht=>?_,fun t ht1 ht2=>?_,?_⟩
    ·rw [z6m (by omega)]
     by_cases e:t=k
     ·rw [if_pos e,e,zK];exact ⟨by show [_,_,_,_,_,_]=tcL hd' (tcg c k);rw [hlk k (Nat.le_refl _) hlt,← hu,hit.lev,hit.off,hit.per,hit.dl,hit.mem];rfl,Hcap.out⟩
     ·rw [if_neg e,zL _ _ e];exact Hlo.out t (by omega)
    ·rw [z6m (by omega),if_neg (by omega)];exact hlk t (by omega) ht2
    ·rw [z6h (f:=fun t h=>pts h.b h.o (cellsOf (tcg c t).code))];exact Sat.perm (show Sat w0 _ (z7 (.slice (some ⟨g,off,none⟩) c.ts.length tc1) (l.set k { l.getD k tv0 with ca:=hd'.ad (tcg c k).code.length,cn:=(tcg c k).code.length,cc:=hd'.cap })*(pts w0.heap.size 0 [.slice (some ⟨g,off,none⟩) c.ts.length tc1,.slice la1 c.ls.length lc1,.int .i64 c.mutexes,.slice sa c.sems.length sc,.slice qa c.queues.length qc,.slice ma c.timers.length mc,.int .i64 c.table,.int .u32 c.mask,.int .u32 c.filter,.int .i64 c.charge,.int .u64 c.cycle,.int .u64 c.count]*(pts (w0.heap.size+1) 0 [.slice none 0 0,.slice none 0 0,.int .i64 0,.slice none 0 0,.slice none 0 0,.slice none 0 0,.int .i64 0,.int .u32 0,.int .u32 0,.int .i64 0,.int .u64 0,.int .u64 0]*(z0F (fun t=>pts (hd t).b (hd t).o (cellsOf (tcg c t).code)) k*(pts hd'.b hd'.o (cellsOf (tcg c k).code)*(z7 (.slice la1 c.ls.length lc1) L*emp)))))) from z3) (by ac_rfl)
   case measure=>simp [intOf];omega
  ·have hkl:k=c.ts.length:=by omega
   subst hkl;have d3:decide (c.ts.length<c.ts.length)=false:=by simp
   obtain ⟨lT,elT⟩:∃ lT,lT=l:=⟨_,rfl⟩;obtain ⟨hT,ehT⟩:∃ hT,hT=hd:=⟨_,rfl⟩;have hlT:=hid hln;have hcT:=hid hlo;rw [← elT,← ehT] at hsr hcT;rw [← elT] at hlT;clear hlo hlk hln elT ehT hlt hk;go_wp2_with fail;refine z9 (w0:=w0) ?_;intro w6 hs6;clear hsr
   go_loopw [35] (fun i wr=>∃ k:Nat, ∃ l:List Lv, ∃ hd:Nat→Hd,k≤c.ls.length∧i=.int .i64 k∧l.length=c.ls.length∧(∀ t,t<k→zn8 (hd t) (l.getD t lv0) (lcg c t))∧(∀ t,k≤t→t<c.ls.length→l.getD t lv0=L.getD t lv0)∧Sat w0 wr (z7 (.slice la1 c.ls.length lc1) l*(pts w0.heap.size 0 [.slice ta1 c.ts.length tc1,.slice la1 c.ls.length lc1,.int .i64 c.mutexes,.slice sa c.sems.length sc,.slice qa c.queues.length qc,.slice ma c.timers.length mc,.int .i64 c.table,.int .u32 c.mask,.int .u32 c.filter,.int .i64 c.charge,.int .u64 c.cycle,.int .u64 c.count]*(pts (w0.heap.size+1) 0 [.slice none 0 0,.slice none 0 0,.int .i64 0,.slice none 0 0,.slice none 0 0,.slice none 0 0,.int .i64 0,.int .u32 0,.int .u32 0,.int .i64 0,.int .u64 0,.int .u64 0]*(z0F (fun t=>pts (hd t).b (hd t).o (cellsOf (lcg c t).code)) k*(z7 (.slice ta1 c.ts.length tc1) lT*(z0F (fun t=>pts (hT t).b (hT t).o (cellsOf (tcg c t).code)) c.ts.length*emp))))))) (fun i _=>c.ls.length-(intOf i).toNat)
   case atStart=>exact ⟨0,L,fun _=>⟨none,0,0,0⟩,Nat.zero_le _,rfl,HLn.out,fun t ht=>absurd ht (by omega),fun _ _ _=>rfl,hs6.perm (by show _=_*(_*(_*(emp*(_*(_*emp)))));rw [zm];ac_rfl)⟩
   case round =>
    obtain ⟨k,l,hd,hk,rfl,hln,hlo,hlk,hsr⟩:=hrel;clear hs6
    by_cases hlt:k<c.ls.length
    ·have d4:decide (k<c.ls.length)=true:=decide_eq_true hlt;have i4:(k:Int)<(c.ls.length:Int):=by omega
     have hit:=HLi.out k hlt;have hcl:=Hsm.out.lc k hlt;obtain ⟨u,hu⟩:∃ u,u=L.getD k lv0:=⟨_,rfl⟩;rw [← hu] at hit;obtain ⟨a7,cap7,g,off,e7,_,_,ha7,_⟩:=hsr.rdR;rw [hln] at e7;obtain ⟨rfl, -,rfl⟩:la1=a7∧c.ls.length=c.ls.length∧lc1=cap7:=by simpa using e7
     obtain rfl:=ha7 (by intro h;simp [h] at hln;omega);clear ha7 e7;haveI:Lt k l.length:=⟨by rw [hln];exact hlt⟩;haveI e5:z1v (l.getD k lv0) 1 (.slice u.ca u.cn u.cc):=⟨by rw [hlk k (Nat.le_refl _) hlt,← hu];rfl⟩;have hC:=hid (fun (w:World) (G:HP) (hs:Sat w0 w (z7 (.slice (some ⟨g,off,none⟩) c.ls.length lc1) l*G))=>zcD _ (lcg c k).code w0 w _ hs (hit.code.later hs) (by omega));have Hlo:=hid hlo;have Hlk:=hid hlk;have Hu:=hid hu;have Hit:=hid hit;have Hln:=hid hln;clear hlo hlk hu hit hcl hln;unfold Lv.cv at hC;go_wp2_with fail;refine z9 (w0:=w0) ?_;intro wy hsy;clear hsr;refine zv (fun w'=>w'.cell? ⟨w0.heap.size,1,none⟩=some (.slice (some ⟨g,off,none⟩) c.ls.length lc1)∧w'.cell? ⟨g,off+k*2+1,none⟩=some (.slice u.ca u.cn u.cc)) 12 [(0,0),(1,1),(2,0),(3,0),(4,1),(5,0),(6,0),(7,0),(8,1),(9,2),(10,0),(11,0),(12,3)] (by kernel_rfl) (by kernel_rfl) (fun _ _ _ _ h=>h) ⟨z4,z4⟩ ?_
     iterate 9 (first | refine zsW ?_ | refine zsY ?_ | refine zsV ?_ | refine zsX ?_)
     refine zpR rfl (by rfl) (fun K hK=>?_);go_wp2_with fail;refine (hC.out _ _ own).mono ?_;rintro en w4 ⟨v4,rfl,hs4⟩;clear hsy;obtain ⟨hd',rfl,hcap,hs5⟩:=z2T hs4;have Hcap:=hid hcap;clear hcap;clear hs4;go_wp2_with fail;refine ⟨⟨z4,z4⟩,?_⟩
     iterate 2 (first | refine zsW ?_ | refine zsY ?_ | refine zsV ?_ | refine zsX ?_)
     haveI e6:z4e (l.getD k lv0) 1 (.slice (hd'.ad (lcg c k).code.length) (lcg c k).code.length hd'.cap) { l.getD k lv0 with ca:=hd'.ad (lcg c k).code.length,cn:=(lcg c k).code.length,cc:=hd'.cap }:=⟨rfl,by decide⟩;refine z14 (fun K hK=>?_);simp only [zqS,zqZ];rw [if_pos (by rfl)];go_wp2_with fail;refine z0a ?_;go_wp2_with fail;go_roundw
     case rel =>
      have hlt:=hlt;have hln:=Hln.out;have hlk:=Hlk.out;have hu:=Hu.out;have hit:=Hit.out;refine ⟨k+1,l.set k { l.getD k lv0 with ca:=hd'.ad (lcg c k).code.length,cn:=(lcg c k).code.length,cc:=hd'.cap },upd hd k hd',by omega,by go_num,by rw [List.length_set];exact hln,fun t ht=>?_,fun t ht1 ht2=>?_,?_⟩
      ·rw [z6m (by omega)]
       by_cases e:t=k
       ·rw [if_pos e,e,zK];exact ⟨by show [_,_]=lcL hd' (lcg c k);rw [hlk k (Nat.le_refl _) hlt,← hu,hit.mem];rfl,Hcap.out⟩
       ·rw [if_neg e,zL _ _ e];exact Hlo.out t (by omega)
      ·rw [z6m (by omega),if_neg (by omega)];exact hlk t (by omega) ht2
      ·rw [z6h (f:=fun t h=>pts h.b h.o (cellsOf (lcg c t).code))];exact Sat.perm (show Sat w0 _ (z7 (.slice (some ⟨g,off,none⟩) c.ls.length lc1) (l.set k { l.getD k lv0 with ca:=hd'.ad (lcg c k).code.length,cn:=(lcg c k).code.length,cc:=hd'.cap })*(pts w0.heap.size 0 [.slice ta1 c.ts.length tc1,.slice (some ⟨g,off,none⟩) c.ls.length lc1,.int .i64 c.mutexes,.slice sa c.sems.length sc,.slice qa c.queues.length qc,.slice ma c.timers.length mc,.int .i64 c.table,.int .u32 c.mask,.int .u32 c.filter,.int .i64 c.charge,.int .u64 c.cycle,.int .u64 c.count]*(pts (w0.heap.size+1) 0 [.slice none 0 0,.slice none 0 0,.int .i64 0,.slice none 0 0,.slice none 0 0,.slice none 0 0,.int .i64 0,.int .u32 0,.int .u32 0,.int .i64 0,.int .u64 0,.int .u64 0]*(z0F (fun t=>pts (hd t).b (hd t).o (cellsOf (lcg c t).code)) k*(pts hd'.b hd'.o (cellsOf (lcg c k).code)*(z7 (.slice ta1 c.ts.length tc1) lT*(z0F (fun t=>pts (hT t).b (hT t).o (cellsOf (tcg c t).code)) c.ts.length*emp))))))) from z3) (by ac_rfl)
     case measure=>simp [intOf];omega
    ·have hkl:k=c.ls.length:=by omega
     subst hkl;have d4:decide (c.ls.length<c.ls.length)=false:=by simp
     obtain ⟨lL,elL⟩:∃ lL,lL=l:=⟨_,rfl⟩;obtain ⟨hL,ehL⟩:∃ hL,hL=hd:=⟨_,rfl⟩;have hlL:=hid hln;have hcL:=hid hlo;rw [← elL,← ehL] at hsr hcL;rw [← elL] at hlL;clear hlo hlk hln elL ehL hlt hk;have cN:=hid (fun (l:List Int) (hl:l.length≤1000) (v:Value) (hv:RdN .i64 w0 v l) (w:World) (G:HP) (hs:Sat w0 w (z7 (.slice ta1 c.ts.length tc1) lT*G))=>z0V v l w0 w _ hs (hv.later hs) (by omega));go_wp2_with fail;refine z9 (w0:=w0) ?_;intro w8 hs8;clear hsr;refine zv (fun w'=>w'.cell? ⟨w0.heap.size,3,none⟩=some (.slice sa c.sems.length sc)∧w'.cell? ⟨w0.heap.size,4,none⟩=some (.slice qa c.queues.length qc)∧w'.cell? ⟨w0.heap.size,5,none⟩=some (.slice ma c.timers.length mc)) 10 [(0,0),(1,1),(3,0),(4,1),(6,0),(7,1),(2,2),(9,0),(5,2),(8,2),(10,3),(11,0),(12,3),(13,0),(14,3)] (by kernel_rfl) (by kernel_rfl) (fun _ _ _ _ h=>h) ⟨z4,z4,z4⟩ ?_
     iterate 6 (first | refine zsW ?_ | refine zsY ?_ | refine zsV ?_ | refine zsX ?_)
     refine zpR rfl (by rfl) (fun K hK=>?_);go_wp2_with fail;refine (cN.out c.sems Hsm.out.s _ HS.out _ _ own).mono ?_;rintro en w9 ⟨v9,rfl,hs9⟩;clear hs8;obtain ⟨hS,rfl,hkhS,hs9'⟩:=zg5 hs9;have HkS:=hid hkhS;clear hs9 hkhS;go_wp2_with fail;refine ⟨⟨z4,z4,z4⟩,?_⟩
     iterate 1 (first | refine zsW ?_ | refine zsY ?_ | refine zsV ?_ | refine zsX ?_)
     refine zpR rfl (by rfl) (fun K hK=>?_);go_wp2_with fail;refine (cN.out c.queues Hsm.out.q _ HQ.out _ _ own).mono ?_;rintro en w10 ⟨v10,rfl,hs10⟩;clear hs9';obtain ⟨hQ,rfl,hkhQ,hs10'⟩:=zg5 hs10;have HkQ:=hid hkhQ;clear hs10 hkhQ;go_wp2_with fail;refine ⟨⟨z4,z4,z4⟩,?_⟩;refine zpR rfl (by rfl) (fun K hK=>?_);go_wp2_with fail;refine (cN.out c.timers Hsm.out.m _ HM.out _ _ own).mono ?_;rintro en w11 ⟨v11,rfl,hs11⟩;clear hs10';obtain ⟨hM,rfl,hkhM,hs11'⟩:=zg5 hs11;have HkM:=hid hkhM;clear hs11 hkhM;go_wp2_with fail;refine ⟨⟨z4,z4,z4⟩,?_⟩;refine z14 (fun K hK=>?_);simp only [zqS,zqZ];rw [if_pos (by rfl)];go_wp2_with fail
     iterate 1 (first | refine zsW ?_ | refine zsY ?_ | refine zsV ?_ | refine zsX ?_)
     refine z14 (fun K hK=>?_);simp only [zqS,zqZ];rw [if_pos (by rfl)];go_wp2_with fail
     iterate 1 (first | refine zsW ?_ | refine zsY ?_ | refine zsV ?_ | refine zsX ?_)
     refine z14 (fun K hK=>?_);simp only [zqS,zqZ];rw [if_pos (by rfl)];go_wp2_with fail;refine z4Q (w0:=w0) ?_;intro w12 hs12;clear hs11';have hs13:Sat w0 w12 (pts (w0.heap.size+1) 0 [.slice none 0 0,.slice none 0 0,.int .i64 0,.slice none 0 0,.slice none 0 0,.slice none 0 0,.int .i64 0,.int .u32 0,.int .u32 0,.int .i64 0,.int .u64 0,.int .u64 0]*(pts w0.heap.size 0 [.slice ta1 c.ts.length tc1,.slice la1 c.ls.length lc1,.int .i64 c.mutexes,hS.v c.sems.length,hQ.v c.queues.length,hM.v c.timers.length,.int .i64 c.table,.int .u32 c.mask,.int .u32 c.filter,.int .i64 c.charge,.int .u64 c.cycle,.int .u64 c.count]*(z7 (.slice ta1 c.ts.length tc1) lT*(z7 (.slice la1 c.ls.length lc1) lL*(z0F (fun t=>pts (hT t).b (hT t).o (cellsOf (tcg c t).code)) c.ts.length*(z0F (fun t=>pts (hL t).b (hL t).o (cellsOf (lcg c t).code)) c.ls.length*(pts hS.b hS.o (c.sems.map (Value.int .i64))*(pts hQ.b hQ.o (c.queues.map (Value.int .i64))*pts hM.b hM.o (c.timers.map (Value.int .i64)))))))))):=z3;clear hs12;refine z0a ?_;go_wp2_with fail;go_returns;refine ⟨_,rfl,?_⟩;refine mpS (P:=z7 (.slice ta1 c.ts.length tc1) lT*(z7 (.slice la1 c.ls.length lc1) lL*(z0F (fun t=>pts (hT t).b (hT t).o (cellsOf (tcg c t).code)) c.ts.length*(z0F (fun t=>pts (hL t).b (hL t).o (cellsOf (lcg c t).code)) c.ls.length*(pts hS.b hS.o (c.sems.map (Value.int .i64))*(pts hQ.b hQ.o (c.queues.map (Value.int .i64))*pts hM.b hM.o (c.timers.map (Value.int .i64)))))))) z3 (fun hz=>?_);obtain ⟨ht,et,kt,hz⟩:=z2T hz;obtain ⟨hl,el,kl,hz⟩:=z2T (hz.perm (by ac_rfl:_=z7 (.slice la1 c.ls.length lc1) lL*(pts ht.b ht.o (cellsOf lT)*(z0F (fun t=>pts (hT t).b (hT t).o (cellsOf (tcg c t).code)) c.ts.length*(z0F (fun t=>pts (hL t).b (hL t).o (cellsOf (lcg c t).code)) c.ls.length*(pts hS.b hS.o (c.sems.map (Value.int .i64))*(pts hQ.b hQ.o (c.queues.map (Value.int .i64))*pts hM.b hM.o (c.timers.map (Value.int .i64)))))))));rw [hlT.out] at et kt;rw [hlL.out] at el kl;have e1:=zlE (b:=ht.b) (o:=ht.o) hlT.out hcT.out;have e2:=zlD (b:=hl.b) (o:=hl.o) hlL.out hcL.out;refine Sat.perm (Sat.ex_in (F:=emp) (⟨ht,hl,hS,hQ,hM,hT,hL⟩:Cx0) ?_) (zz _);refine Sat.perm (Sat.pur_in ?_ (F:=cfH ⟨ht,hl,hS,hQ,hM,hT,hL⟩ c) ?_) (zz _).symm
     ·refine ⟨?_,kt,kl,HkS.out,HkQ.out,HkM.out,fun t ht=>(hcT.out t ht).cap,fun t ht=>(hcL.out t ht).cap⟩;show Value.agg #[.slice ta1 c.ts.length tc1,.slice la1 c.ls.length lc1,_,_,_,_,_,_,_,_,_,_]=_;rw [et,el]
     ·refine hz.perm ?_;unfold cfH ctP clP cnP;dsimp only;rw [← e1,← e2]
      ac_rfl
def znM (x:Cx0) (c:Cf) (t:Nat):Tv:=⟨(tcg c t).lev,(tcg c t).off,(tcg c t).per,(tcg c t).dl,(tcg c t).mem,(x.tv t).ad (tcg c t).code.length,(tcg c t).code.length,(x.tv t).cap⟩
def z1H (x:Cx0) (c:Cf) (t:Nat):Lv:=⟨(lcg c t).mem,(x.lv t).ad (lcg c t).code.length,(lcg c t).code.length,(x.lv t).cap⟩
theorem z27 {α:Type} {f:Nat→α} {n t:Nat} {d:α} (h:t<n):((List.range n).map f).getD t d=f t:=by
 simp [List.getD,h]
theorem z9q {α:Type} {sz:Nat} [E:Enc α sz] {w0 w:World} {F:HP} {h:Hd} {l:List α} (hs:Sat w0 w (pts h.b h.o (cellsOf l)*F)) (hc:l.length≤h.cap∧h.cap≤maxLen):RdR w (h.v l.length) l :=
 ⟨h.ad l.length,h.cap,h.b,h.o,rfl,hc.1,hc.2,fun hne=>h.ad_pos (List.length_pos_iff.2 hne),fun j u hj=>hs.cell hj⟩
theorem zcb {w0 w:World} {F:HP} {h:Hd} {l:List Int} (hs:Sat w0 w (pts h.b h.o (l.map (Value.int .i64))*F)) (hc:l.length≤h.cap∧h.cap≤maxLen):RdN .i64 w (h.v l.length) l :=
 ⟨h.ad l.length,h.cap,h.b,h.o,rfl,hc.1,hc.2,fun hne=>h.ad_pos (List.length_pos_iff.2 hne),fun j hj=>by
  have:=hs.cell (j:=j) (v:=.int .i64 (l.getD j 0)) (by simp [List.getD,hj]);exact this⟩
theorem z8N {f:Nat→HP} {n t:Nat} (h:t<n):∃ R,z0F f n=f t*R:=by
 obtain ⟨R,hR⟩:=z8M f h;refine ⟨R,?_⟩;rw [← hR (f t),z10]
theorem zmv {w0 w:World} {x:Cx0} {c:Cf} {F:HP} (hs:Sat w0 w (cfH x c*F)) (k:zjx x c):z8I w (.agg (cfL x c).toArray) c:=by
 have hT:∀ t,t<c.ts.length→zn9 (x.tv t) (((List.range c.ts.length).map (znM x c)).getD t tv0) (tcg c t):=fun t ht=>by
  rw [z27 ht];exact ⟨rfl,k.tv t ht⟩
 have hL:∀ t,t<c.ls.length→zn8 (x.lv t) (((List.range c.ls.length).map (z1H x c)).getD t lv0) (lcg c t):=fun t ht=>by
  rw [z27 ht];exact ⟨rfl,k.lv t ht⟩
 have e1:_=ctP x c:=zlE (b:=x.ct.b) (o:=x.ct.o) (by simp) hT;have e2:_=clP x c:=zlD (b:=x.cl.b) (o:=x.cl.o) (by simp) hL;unfold cfH cnP at hs;rw [← e1,← e2] at hs;have lT:((List.range c.ts.length).map (znM x c)).length=c.ts.length:=by simp
 have lL:((List.range c.ls.length).map (z1H x c)).length=c.ls.length:=by simp
 have r1:=z9q (h:=x.ct) (hs.perm (z2u.eq (Q:=pts x.ct.b x.ct.o (cellsOf ((List.range c.ts.length).map (znM x c)))))) (by rw [lT];exact k.ct);have r2:=z9q (h:=x.cl) (hs.perm (z2u.eq (Q:=pts x.cl.b x.cl.o (cellsOf ((List.range c.ls.length).map (z1H x c)))))) (by rw [lL];exact k.cl);rw [lT] at r1;rw [lL] at r2;refine ⟨⟨_,_,_,_,_,rfl,⟨_,r1,lT,fun t ht=>?_⟩,⟨_,r2,lL,fun t ht=>?_⟩,?_,?_,?_⟩⟩
 ·rw [z27 ht];refine ⟨rfl,rfl,rfl,rfl,rfl,?_⟩;obtain ⟨R,hR⟩:=z8N (f:=fun t=>pts (x.tv t).b (x.tv t).o (cellsOf (tcg c t).code)) ht;rw [hR] at hs;exact z9q (h:=x.tv t) (hs.perm (z2u.eq (Q:=pts (x.tv t).b (x.tv t).o (cellsOf (tcg c t).code)))) (k.tv t ht)
 ·rw [z27 ht];refine ⟨rfl,?_⟩;obtain ⟨R,hR⟩:=z8N (f:=fun t=>pts (x.lv t).b (x.lv t).o (cellsOf (lcg c t).code)) ht;rw [hR] at hs;exact z9q (h:=x.lv t) (hs.perm (z2u.eq (Q:=pts (x.lv t).b (x.lv t).o (cellsOf (lcg c t).code)))) (k.lv t ht)
 ·exact zcb (h:=x.cs) (hs.perm (z2u.eq (Q:=pts x.cs.b x.cs.o (c.sems.map (Value.int .i64))))) k.cs
 ·exact zcb (h:=x.cq) (hs.perm (z2u.eq (Q:=pts x.cq.b x.cq.o (c.queues.map (Value.int .i64))))) k.cq
 ·exact zcb (h:=x.cm) (hs.perm (z2u.eq (Q:=pts x.cm.b x.cm.o (c.timers.map (Value.int .i64))))) k.cm
def knL (count cycle:Int) (cv:List Value):List Value :=
 [.int .u64 count,.int .u64 cycle]++(([.slice none 0 0]++(List.replicate 256 false).map Value.bool)++([.int .i64 0] ++
 (([.int .u32 0]++((List.replicate 32 (0:Int)).map (Value.int .i8)++((List.replicate 32 (0:Int)).map (Value.int .i8)++((List.replicate 64 (0:Int)).map (Value.int .i8)++((List.replicate 64 (0:Int)).map (Value.int .i8)++((List.replicate 64 (0:Int)).map (Value.int .i8)++[.int .i64 0])))))) ++
 (cv++([.int .i64 255]++(cxL 0 r80 (.slice none 0 0)++([.slice none 0 0,.slice none 0 0,.pointer none,.slice none 0 0,.slice none 0 0,.pointer none,.int .u64 0,.bool false]++[.slice none 0 0])))))))
theorem zhD (c0 c1 c2 c3 c4 c5 c6 c7 c8 c9 c10 c11:Value) (a b:Int):(((((((((((((((Tryz.zeroCells123.setIfInBounds 518 c0).setIfInBounds 519 c1).setIfInBounds 520 c2).setIfInBounds 521 c3).setIfInBounds 522 c4).setIfInBounds 523 c5).setIfInBounds 524 c6).setIfInBounds 525 c7).setIfInBounds 526 c8).setIfInBounds 527 c9).setIfInBounds 528 c10).setIfInBounds 529 c11).setIfInBounds 530 (.int .i64 255)).setIfInBounds 0 (.int .u64 a)).setIfInBounds 1 (.int .u64 b))=(knL a b [c0,c1,c2,c3,c4,c5,c6,c7,c8,c9,c10,c11]).toArray:=by
 kernel_rfl
def znz (b:Nat) (count cycle:Int) (cv:List Value):HP :=
 pts b 0 [.int .u64 count,.int .u64 cycle]*(z21 b 2 []*(pts b 259 [.int .i64 0]*(rdP b 260 (fun _=>[])*(pts b 518 cv*(pts b 530 [.int .i64 255]*(pts b 531 (cxL 0 r80 (.slice none 0 0))*(pts b 541 [.slice none 0 0,.slice none 0 0,.pointer none,.slice none 0 0,.slice none 0 0,.pointer none,.int .u64 0,.bool false]*pts b 549 [.slice none 0 0])))))))
theorem zkJ {w0 w:World} {F:HP} {b:Nat} {count cycle:Int} {cv:List Value} (hcv:cv.length=12) (hs:Sat w0 w (pts b 0 (knL count cycle cv)*F)):Sat w0 w (znz b count cycle cv*F):=by
 unfold knL at hs;rw [zd,zd b (0+_),zd b (0+_+_) [.int .i64 0],zd b (0+_+_+_),zd b _ cv,zd b _ [.int .i64 255],zd b _ (cxL 0 r80 _),zd b _ [.slice none 0 0,.slice none 0 0,.pointer none,.slice none 0 0,.slice none 0 0,.pointer none,.int .u64 0,.bool false]] at hs;simp only [List.length_append,List.length_cons,List.length_nil,List.length_map,List.length_replicate,hcv,R8.cells,Nat.zero_add,Nat.reduceAdd] at hs;rw [zd b 2,zd b 260,zd b _ ((List.replicate 32 (0:Int)).map (Value.int .i8)),zd b _ ((List.replicate 32 (0:Int)).map (Value.int .i8)),zd b _ ((List.replicate 64 (0:Int)).map (Value.int .i8)),zd b _ ((List.replicate 64 (0:Int)).map (Value.int .i8)),zd b _ ((List.replicate 64 (0:Int)).map (Value.int .i8))] at hs;simp only [List.length_append,List.length_cons,List.length_nil,List.length_map,List.length_replicate,Nat.reduceAdd,Nat.zero_add] at hs;have h1:∀ {G:HP},Sat w0 w ((pts b 2 [.slice none 0 0]*pts b 3 ((List.replicate 256 false).map Value.bool))*G)→Sat w0 w (z21 b 2 []*G):=fun {G} h=>by
  refine Sat.ex_in (f:=fun v=>pts b 2 [v]*(z7 v (z0H 0 [])*pts b (2+1) ((zO []).map Value.bool))) (.slice none 0 0) (h.perm ?_);have e1:z0H 0 []=([]:List Ck):=rfl;have e2:zO []=List.replicate 256 false:=by decide +kernel
  rw [e1,e2,z03,zm]
 have h2:∀ {G:HP},Sat w0 w (raP b 260 ⟨0,List.replicate 32 0,List.replicate 32 0,List.replicate 64 0,List.replicate 64 0,List.replicate 64 0,0⟩*G)→Sat w0 w (rdP b 260 (fun _=>[])*G):=fun {G} h =>
  Sat.ex_in (f:=fun a:Ra=>pur (Rep (fun _=>[]) a.n a.fr a.bk a.ah a.af a.lv)*raP b 260 a) ⟨0,List.replicate 32 0,List.replicate 32 0,List.replicate 64 0,List.replicate 64 0,List.replicate 64 0,0⟩ ((Sat.pur_in Rep.none h).perm (by ac_rfl))
 have h3:=h1 (G:=pts b 0 [.int .u64 count,.int .u64 cycle]*(pts b 259 [.int .i64 0]*((pts b 260 [.int .u32 0]*(pts b 261 ((List.replicate 32 (0:Int)).map (Value.int .i8))*(pts b 293 ((List.replicate 32 (0:Int)).map (Value.int .i8))*(pts b 325 ((List.replicate 64 (0:Int)).map (Value.int .i8))*(pts b 389 ((List.replicate 64 (0:Int)).map (Value.int .i8))*(pts b 453 ((List.replicate 64 (0:Int)).map (Value.int .i8))*pts b 517 [.int .i64 0]))))))*(pts b 518 cv*(pts b 530 [.int .i64 255]*(pts b 531 (cxL 0 r80 (.slice none 0 0))*(pts b 541 [.slice none 0 0,.slice none 0 0,.pointer none,.slice none 0 0,.slice none 0 0,.pointer none,.int .u64 0,.bool false]*(pts b 549 [.slice none 0 0]*F)))))))) (hs.perm (by ac_rfl));have h4:=h2 (G:=z21 b 2 []*(pts b 0 [.int .u64 count,.int .u64 cycle]*(pts b 259 [.int .i64 0]*(pts b 518 cv*(pts b 530 [.int .i64 255]*(pts b 531 (cxL 0 r80 (.slice none 0 0))*(pts b 541 [.slice none 0 0,.slice none 0 0,.pointer none,.slice none 0 0,.slice none 0 0,.pointer none,.int .u64 0,.bool false]*(pts b 549 [.slice none 0 0]*F)))))))) (h3.perm (by show _=(pts b 260 [.int .u32 0]*(pts b 261 ((List.replicate 32 (0:Int)).map (Value.int .i8))*(pts b 293 ((List.replicate 32 (0:Int)).map (Value.int .i8))*(pts b 325 ((List.replicate 64 (0:Int)).map (Value.int .i8))*(pts b 389 ((List.replicate 64 (0:Int)).map (Value.int .i8))*(pts b 453 ((List.replicate 64 (0:Int)).map (Value.int .i8))*pts b 517 [.int .i64 0]))))))*_;ac_rfl));exact h4.perm (by unfold znz;ac_rfl)
instance (priority:=1100) (w0 w:World) (P:HP) (a b:Int) (c0 c1 c2 c3 c4 c5 c6 c7 c8 c9 c10 c11:Value) (t:TypeId) (n:Nat) [h:Sat w0 w P] [s:z89 w n]:Sat w0 (w.alloc (.cells (((((((((((((((Tryz.zeroCells123.setIfInBounds 518 c0).setIfInBounds 519 c1).setIfInBounds 520 c2).setIfInBounds 521 c3).setIfInBounds 522 c4).setIfInBounds 523 c5).setIfInBounds 524 c6).setIfInBounds 525 c7).setIfInBounds 526 c8).setIfInBounds 527 c9).setIfInBounds 528 c10).setIfInBounds 529 c11).setIfInBounds 530 (.int .i64 255)).setIfInBounds 0 (.int .u64 a)).setIfInBounds 1 (.int .u64 b)) t)) (pts n 0 [.int .u64 a,.int .u64 b]*(z21 n 2 []*(pts n 259 [.int .i64 0]*(rdP n 260 (fun _=>[])*(pts n 518 [c0,c1,c2,c3,c4,c5,c6,c7,c8,c9,c10,c11]*(pts n 530 [.int .i64 255]*(pts n 531 (cxL 0 r80 (.slice none 0 0))*(pts n 541 [.slice none 0 0,.slice none 0 0,.pointer none,.slice none 0 0,.slice none 0 0,.pointer none,.int .u64 0,.bool false]*(pts n 549 [.slice none 0 0]*P))))))))) :=
 (zkJ (cv:=[c0,c1,c2,c3,c4,c5,c6,c7,c8,c9,c10,c11]) rfl (by rw [zhD];exact s.eq ▸ h.alloc (knL a b [c0,c1,c2,c3,c4,c5,c6,c7,c8,c9,c10,c11]).toArray t)).perm (by unfold znz;ac_rfl)
structure Tr where
 s:Ts
 a:Option Addr
 n:Nat
 c:Nat
structure Mv where
 a:Option Addr
 n:Nat
 c:Nat
structure Pv where
 b:Nat
abbrev tr0:Tr:=⟨ts0,none,0,0⟩
abbrev mv0:Mv:=⟨none,0,0⟩
abbrev pv0:Pv:=⟨0⟩
instance zjX:Enc Tr 15 where
 enc t:=tsL t.s++cxL t.s.at_ t.s.rg (.slice t.a t.n t.c)
 len _:=rfl
 one t:=by
  intro u hu;simp [R8.cells] at hu
  rcases hu with rfl | rfl | rfl | rfl | rfl | rfl | rfl | rfl | rfl | rfl | rfl | rfl | rfl | rfl | rfl<;>rfl
 dft:=tr0
 pos:=by decide
instance z6P:Enc Mv 1 where
 enc t:=[.slice t.a t.n t.c]
 len _:=rfl
 one t:=by intro u hu;simp at hu;subst hu;rfl
 dft:=mv0
 pos:=by decide
instance zjW:Enc Pv 1 where
 enc t:=[.pointer (some ⟨t.b,0,none⟩)]
 len _:=rfl
 one t:=by intro u hu;simp at hu;subst hu;rfl
 dft:=pv0
 pos:=by decide
theorem zj7:z1m Tryz.prog 41 125 15 104 (.agg #[.int .i64 0,.int .i64 0,.int .i64 0,.int .i64 0,.int .u32 0,.int .i64 0,.int .u32 0,.int .u32 0,.int .u32 0,.int .u32 0,.int .u32 0,.int .u32 0,.int .u32 0,.int .u32 0,.slice none 0 0]):=⟨by kernel_rfl,by kernel_rfl,rfl⟩
theorem zj6:z1m Tryz.prog 40 30 1 24 (.slice none 0 0):=⟨by kernel_rfl,by kernel_rfl,rfl⟩
theorem zlL:z1m Tryz.prog 119 129 1 8 (.pointer none):=⟨by kernel_rfl,by kernel_rfl,rfl⟩
theorem zlK:z1m Tryz.prog 120 132 1 8 (.pointer none):=⟨by kernel_rfl,by kernel_rfl,rfl⟩
instance:z63 Tryz.prog 40 Mv 1 z6P 30 24 (.slice none 0 0):=⟨zj6,by decide⟩
instance:z63 Tryz.prog 119 Pv 1 zjW 129 8 (.pointer none):=⟨zlL,by decide⟩
instance:z63 Tryz.prog 120 Pv 1 zjW 132 8 (.pointer none):=⟨zlK,by decide⟩
theorem zjU:z1m Tryz.prog 30 25 1 4 (.int .u32 0):=⟨by kernel_rfl,by kernel_rfl,rfl⟩
theorem zny (x:Value) (n:Nat):(madeCells #[x] n).toList=List.replicate n x:=by
 induction n with
 | zero=>simp [madeCells]
 | succ n ih =>
  simp [madeCells] at ih ⊢;simp [List.range_succ,ih,List.replicate_succ'];rw [Nat.mod_one];rfl
theorem zfQ (M:Nat) (hM:M≤256) (w:World):(Instr.makeSlice 30 (.int .i64 M) (.int .i64 M)).run Tryz.prog w=.ok (.slice (some ⟨w.heap.size,0,none⟩) M M) (w.alloc (.cells (List.replicate M (Value.int .u32 0)).toArray 25)):=by
 obtain ⟨i,hi,hz,h2,h3⟩:=info_parts zjU.hi;have hc:(Value.int .u32 0).cells=#[Value.int .u32 0]:=by rfl
 have hr:=run_make (P:=Tryz.prog) w 30 25 i _ zjU.ht hi hz .i64 .i64 M M (by omega) (Int.le_refl _) (by
  rw [h3];omega) (by omega)
 rw [hr,hc,h2];simp only [Int.toNat_natCast,Nat.mul_one];rw [← zny]
section
variable {x:Cx0} {c:Cf}
theorem zdB {t:Nat} (h:t<c.ts.length):∃ R,cfH x c=pts x.ct.b (x.ct.o+t*6) (tcL (x.tv t) (tcg c t))*R:=by
 obtain ⟨R,hR⟩:=z8N (f:=fun t=>pts x.ct.b (x.ct.o+t*6) (tcL (x.tv t) (tcg c t))*pts (x.tv t).b (x.tv t).o (cellsOf (tcg c t).code)) h;refine ⟨pts (x.tv t).b (x.tv t).o (cellsOf (tcg c t).code)*R*(clP x c*(cnP x.cs c.sems*(cnP x.cq c.queues*cnP x.cm c.timers))),?_⟩;unfold cfH ctP;rw [hR];ac_rfl
theorem zlC {t:Nat} (h:t<c.ls.length):∃ R,cfH x c=pts x.cl.b (x.cl.o+t*2) (lcL (x.lv t) (lcg c t))*R:=by
 obtain ⟨R,hR⟩:=z8N (f:=fun t=>pts x.cl.b (x.cl.o+t*2) (lcL (x.lv t) (lcg c t))*pts (x.lv t).b (x.lv t).o (cellsOf (lcg c t).code)) h;refine ⟨pts (x.lv t).b (x.lv t).o (cellsOf (lcg c t).code)*R*(ctP x c*(cnP x.cs c.sems*(cnP x.cq c.queues*cnP x.cm c.timers))),?_⟩;unfold cfH clP;rw [hR];ac_rfl
theorem znd:∃ R,cfH x c=pts x.cs.b x.cs.o (c.sems.map (Value.int .i64))*R:=⟨ctP x c*(clP x c*(cnP x.cq c.queues*cnP x.cm c.timers)),by unfold cfH cnP;ac_rfl⟩
theorem znc:∃ R,cfH x c=pts x.cq.b x.cq.o (c.queues.map (Value.int .i64))*R:=⟨ctP x c*(clP x c*(cnP x.cs c.sems*cnP x.cm c.timers)),by unfold cfH cnP;ac_rfl⟩
variable (t:Nat)
instance (priority:=1300) [l:Lt t c.ts.length]:zC (cfH x c) x.ct.b (x.ct.o+t*6) (.int .i64 (tcg c t).lev):=let ⟨_,h⟩:=zdB (x:=x) l.lt;za h (zg (j:=0) rfl)
instance (priority:=1300) [l:Lt t c.ts.length]:zC (cfH x c) x.ct.b (x.ct.o+t*6+1) (.int .i64 (tcg c t).off):=let ⟨_,h⟩:=zdB (x:=x) l.lt;za h (zg (j:=1) rfl)
instance (priority:=1300) [l:Lt t c.ts.length]:zC (cfH x c) x.ct.b (x.ct.o+t*6+2) (.int .i64 (tcg c t).per):=let ⟨_,h⟩:=zdB (x:=x) l.lt;za h (zg (j:=2) rfl)
instance (priority:=1300) [l:Lt t c.ts.length]:zC (cfH x c) x.ct.b (x.ct.o+t*6+3) (.int .i64 (tcg c t).dl):=let ⟨_,h⟩:=zdB (x:=x) l.lt;za h (zg (j:=3) rfl)
instance (priority:=1300) [l:Lt t c.ts.length]:zC (cfH x c) x.ct.b (x.ct.o+t*6+4) (.int .i64 (tcg c t).mem):=let ⟨_,h⟩:=zdB (x:=x) l.lt;za h (zg (j:=4) rfl)
instance (priority:=1300) [l:Lt t c.ts.length]:zC (cfH x c) x.ct.b (x.ct.o+t*6+5) ((x.tv t).v (tcg c t).code.length):=let ⟨_,h⟩:=zdB (x:=x) l.lt;za h (zg (j:=5) rfl)
instance (priority:=1300) [l:Lt t c.ls.length]:zC (cfH x c) x.cl.b (x.cl.o+t*2) (.int .i64 (lcg c t).mem):=let ⟨_,h⟩:=zlC (x:=x) l.lt;za h (zg (j:=0) rfl)
instance (priority:=1300) [l:Lt t c.ls.length]:zC (cfH x c) x.cl.b (x.cl.o+t*2+1) ((x.lv t).v (lcg c t).code.length):=let ⟨_,h⟩:=zlC (x:=x) l.lt;za h (zg (j:=1) rfl)
instance (priority:=1300) [l:Lt t c.sems.length]:zC (cfH x c) x.cs.b (x.cs.o+t) (.int .i64 (lg c.sems t)):=let ⟨_,h⟩:=znd (x:=x) (c:=c);za h (zC.num .i64 _ _ _ _)
instance (priority:=1300) [l:Lt t c.queues.length]:zC (cfH x c) x.cq.b (x.cq.o+t) (.int .i64 (lg c.queues t)):=let ⟨_,h⟩:=znc (x:=x) (c:=c);za h (zC.num .i64 _ _ _ _)
end
def zaJ (c:Cf) (t:Nat):Ts:=⟨0,(tcg c t).lev,0,0,0,0,r80⟩
def lvK (c:Cf) (k:Nat):List Int:=(List.range k).map fun t=>(tcg c t).lev
def trK (c:Cf) (hd:Nat→Hd) (k:Nat):List Tr:=(List.range k).map fun t=>⟨zaJ c t,(hd t).ad (z1x c t),z1x c t,(hd t).cap⟩
theorem zkD (c:Cf) (k:Nat):(lvK c k).length=k:=by simp [lvK]
theorem zcr (c:Cf) (hd:Nat→Hd) (k:Nat):(trK c hd k).length=k:=by simp [trK]
theorem zhM (c:Cf) (k:Nat):lvK c (k+1)=lvK c k++[(tcg c k).lev]:=by simp [lvK,List.range_succ]
theorem ziO (c:Cf) (hd:Nat→Hd) (k:Nat) (h:Hd):trK c (upd hd k h) (k+1)=trK c hd k++[⟨zaJ c k,h.ad (z1x c k),z1x c k,h.cap⟩]:=by
 unfold trK;rw [List.range_succ,List.map_append]
 congr 1
 ·refine List.map_congr_left fun t ht=>?_;have:=List.mem_range.1 ht;rw [zL _ _ (by omega)]
 ·simp
theorem z9V (c:Cf) (k:Nat):z0p c (k+1)=z5B (z0p c k) (k:Int) (tcg c k).off:=by
 unfold z0p;rw [List.range_succ,List.foldl_append];rfl
theorem zrB {b j:Nat} {cl:List Value} {v:Value} (h:cl[j]?=some v):zC (pts b 0 cl) b j v :=
 ⟨fun hs=>by have:=hs.cell h;rwa [Nat.zero_add] at this,fun hs=>by have:=hs.frz (j:=j) (List.getElem?_eq_some_iff.1 h).1;rwa [Nat.zero_add] at this⟩
theorem zqv {P:Program} {w0 w:World} {F:HP} {fn:Func} {p q r b o:Nat} {ty:TypeId} {tmps:Array Value} {cells:List Value} {d:TypeDesc} (h:fn.results=#[.tmp p,.cell q ty,.tmp r]) (hp:tmps.getD q undef=.pointer (some ⟨b,o,none⟩)) (hs:Sat w0 w (pts b o cells*F))
  (hu : P.underlying ty = some d) (hd : d.isRow = true) (hi : (P.info? ty).map (·.size) = some cells.length) : (results fn tmps).run P w = .ok (.tuple #[tmps.getD p undef,.agg cells.toArray,tmps.getD r undef]) w:=by
 have hp':tmps[q]?.getD undef=.pointer (some ⟨b,o,none⟩):=by simpa using hp
 simp [results,h,hp',asAddr,run_loadVar_mid w b o ty cells d hs.range hu hd hi]
theorem zrE (v:Value) (l:List Ar) (w0 w:World) (F:HP) (hs:Sat w0 w F) (h:RdR w v l) (hl:l.length≤1000000) :
  Calls Tryz.prog 25 #[v] w (Ret w0 fun v'=>z7 v' l*F):=by
 obtain ⟨a,cap,b,off,rfl,hcap,hbig,ha,hc⟩:=id h;have hnw:=h.news;clear hc ha;have q:∀ (w:World) (a:Option Addr) (n c:Nat),(binOp .eql 29 (.slice a n c) (.slice none 0 0)).run Tryz.prog w=.ok (.bool a.isNone) w:=fun w a n c=>Lib.run_eql_slice_nil w _ _ a n c 0 0 Tryz.underlying29
 cases a with
 | none =>
  have h0:=hnw.2.1 rfl;have hl0:l=[]:=List.eq_nil_of_length_eq_zero h0;subst hl0;clear h hnw
  go_enter Tryz.func25,Tryz.ntmps25
  go_wp2;go_ret;exact ⟨_,rfl,hs.slice_nil 2⟩
 | some ad =>
  go_enter Tryz.func25,Tryz.ntmps25
  go_wp2_with (at_builtin;refine z00 (by rfl) (.tmp 5) (.tmp 6) (by rfl) zry (by rfl) (hs.empty_slice 2 92) (some ad) l.length cap (cellsOf l) (by rfl) (by rw [zJ]) (by simp) (fun a' ha' j u hj=>z1i (hnw.2.2 a' ha' j u hj) _) (z1f l) (by unfold maxLen;omega) (by omega) ?_);intro v' w' hs' _;go_wp2;go_ret;exact ⟨_,rfl,by simpa [z7] using hs'⟩
theorem zrF (v:Value) (l:List Int) (w0 w:World) (F:HP) (hs:Sat w0 w F) (h:RdN .u32 w v l) (hl:l.length≤1000000) :
  Calls Tryz.prog 26 #[v] w (Ret w0 fun v'=>z5 .u32 v' l*F):=by
 obtain ⟨a,cap,b,off,rfl,hcap,hbig,ha,hc⟩:=id h;have hnw:=h.news;clear hc ha;have q:∀ (w:World) (a:Option Addr) (n c:Nat),(binOp .eql 30 (.slice a n c) (.slice none 0 0)).run Tryz.prog w=.ok (.bool a.isNone) w:=fun w a n c=>Lib.run_eql_slice_nil w _ _ a n c 0 0 Tryz.underlying30
 cases a with
 | none =>
  have h0:=hnw.2.1 rfl;have hl0:l=[]:=List.eq_nil_of_length_eq_zero h0;subst hl0;clear h hnw
  go_enter Tryz.func26,Tryz.ntmps26
  go_wp2;go_ret;exact ⟨_,rfl,hs.slice_nil 1⟩
 | some ad =>
  go_enter Tryz.func26,Tryz.ntmps26
  go_wp2_with (at_builtin;refine z00 (by rfl) (.tmp 5) (.tmp 6) (by rfl) zjU (by rfl) (hs.empty_slice 1 25) (some ad) l.length cap (l.map (Value.int .u32)) (by rfl) (by simp) (by simp) (fun a' ha' j u hj=>z1i (hnw.2.2 a' ha' j u hj) _) (by intro u hu;simp at hu;obtain ⟨i,_,rfl⟩:=hu;rfl) (by unfold maxLen;omega) (by omega) ?_);intro v' w' hs' _;go_wp2;go_ret;exact ⟨_,rfl,by simpa [z5] using hs'⟩
end Go.Proofs.YtgiiidminlhbpaaGreatDoor
