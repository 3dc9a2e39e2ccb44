/-
  Parts of the proof: Ints SameA Same13.
-/
import Derived.Test.YtlbjjoeocdimfaaGreatDoorKD2
import Derived.Test.YtlbjjoeocdimfaaGreatDoorKD5
import Derived.Test.YtlbjjoeocdimfaaGreatDoorKD8
import Derived.Test.YtlbjjoeocdimfaaGreatDoorKD14
set_option linter.unusedVariables false
set_option linter.unusedSimpArgs false
set_option maxHeartbeats 32000000
set_option maxRecDepth 100000
namespace Go.Proofs.YtlbjjoeocdimfaaGreatDoor
open Go.RowKit Go.Sx
theorem z6Y {l m:List Int} (hlen:l.length=m.length) {k:Nat} (hk:k<l.length) (h:l.take k=m.take k) (e:l.getD k 0=m.getD k 0):l.take (k+1)=m.take (k+1):=by
 rw [List.take_succ_eq_append_getElem hk,List.take_succ_eq_append_getElem (by omega),h];have e1:l.getD k 0=l[k]:=by simp [List.getD,hk]
 have e2:m.getD k 0=m[k]:=by simp [List.getD,show k<m.length by omega]
 rw [← e1,← e2,e]
theorem zo0 (v u:Value) (l m:List Int) (w:World) (h:RdN .i64 w v l) (hm:RdN .i64 w u m) :
  Calls Tryz.prog 68 #[v,u] w (z9P (.bool (decide (l=m))) w):=by
 obtain ⟨a,cap,b,off,rfl,hcap,hbig,ha,hc⟩:=h;obtain ⟨la,lcap,lb,loff,rfl,hlcap,hlbig,hla,hlc⟩:=hm;unfold maxLen at hbig hlbig
 by_cases hlen:l.length=m.length
 ·have hb:((l.length:Int) != (m.length:Int))=false:=by simp [hlen]
  have hlen':=hid hlen;clear hlen
  go_enter Tryz.func68,Tryz.ntmps68
  go_wp2_with fail
  go_loopw [5] (fun i wr=>∃ k n:Nat,k≤l.length∧i=.int .i64 k∧l.take k=m.take k∧wr=w.drewN n) (fun i _=>l.length-(intOf i).toNat)
  case atStart=>exact ⟨0,0,Nat.zero_le _,rfl,rfl,rfl⟩
  case round =>
   obtain ⟨k,n,hk,rfl,heq,rfl⟩:=hrel;have heq:=hid heq
   by_cases hlt:k<l.length
   ·have hlt2:k<m.length:=by have:=hlen'.out;omega
    obtain rfl:=ha (by intro h;simp [h] at hlt);obtain rfl:=hla (by intro h;simp [h] at hlt2);have c1:=hc k hlt;have c2:=hlc k hlt2;have hnext:=hid (fun e=>z6Y hlen'.out hlt heq.out e);have hne:Hid (l.getD k 0≠m.getD k 0→l≠m):=fun h e=>h (by rw [e]);generalize l.getD k 0=x at c1 hnext hne;generalize m.getD k 0=y at c2 hnext hne;clear hc hlc ha hla
    by_cases hxy:x=y
    ·have hb2:(x != y)=false:=by simp [hxy]
     have hxy:=hid hxy;go_wp2_with fail;go_quiet (fail);go_wp2;go_roundw
     case rel=>exact ⟨k+1,_,by omega,by go_num,hnext.out hxy.out,rfl⟩
     case measure=>simp [intOf];omega
    ·have hb2:(x != y)=true:=by simp [hxy]
     have hd:decide (l=m)=false:=decide_eq_false (hne.out hxy);go_wp2_with fail;go_quiet (fail);go_wp2;go_ret;exact ⟨by rw [hd];rfl,n+nq,by simp⟩
   ·have hd:decide (l=m)=true:=decide_eq_true (by have h1:=heq.out;rw [List.take_of_length_le (by omega),List.take_of_length_le (by have:=hlen'.out;omega)] at h1;exact h1);clear hc hlc ha hla;go_wp2_with fail;go_ret;exact ⟨by rw [hd];rfl,_,rfl⟩
 ·have hb:((l.length:Int) != (m.length:Int))=true:=by simp;omega
  have hd:decide (l=m)=false:=decide_eq_false (fun e=>hlen (by rw [e]));clear hc hlc ha hla
  go_enter Tryz.func68,Tryz.ntmps68
  go_wp2_with fail;go_ret;exact ⟨by rw [hd];rfl,0,rfl⟩
theorem zm2 (v u:Value) (l m:List Int) (w0 w:World) (P:HP) (hs:Sat w0 w P) (h:RdN .i64 w v l) (hm:RdN .i64 w u m) :
  Calls Tryz.prog 68 #[v,u] w (zp w0 (.bool (decide (l=m))) P) :=
 (zo0 v u l m w h hm).mono (by rintro e w' ⟨rfl,n,rfl⟩;exact ⟨rfl,hs.drewN n⟩)
end Go.Proofs.YtlbjjoeocdimfaaGreatDoor
namespace Go.Proofs.YtlbjjoeocdimfaaGreatDoor
open Go.RowKit Go.Sx Go.Dl Go.Lk Go.Rq Go.Au
theorem z8y {l m:List (List Int)} (hlen:l.length=m.length) {k:Nat} (hk:k<l.length) (h:l.take k=m.take k) (e:l.getD k []=m.getD k []):l.take (k+1)=m.take (k+1):=by
 rw [List.take_succ_eq_append_getElem hk,List.take_succ_eq_append_getElem (by omega),h];have e1:l.getD k []=l[k]:=by simp [List.getD,hk]
 have e2:m.getD k []=m[k]:=by simp [List.getD,show k<m.length by omega]
 rw [← e1,← e2,e]
theorem zmB (v u:Value) (l m:List Int) (w:World) (h:RdN .u32 w v l) (hm:RdN .u32 w u m) :
  Calls Tryz.prog 130 #[v,u] w (z9P (.bool (decide (l=m))) w):=by
 obtain ⟨a,cap,b,off,rfl,hcap,hbig,ha,hc⟩:=h;obtain ⟨la,lcap,lb,loff,rfl,hlcap,hlbig,hla,hlc⟩:=hm;unfold maxLen at hbig hlbig
 by_cases hlen:l.length=m.length
 ·have hb:((l.length:Int) != (m.length:Int))=false:=by simp [hlen]
  have hlen':=hid hlen;clear hlen
  go_enter Tryz.func130,Tryz.ntmps130
  go_wp2_with fail
  go_loopw [5] (fun i wr=>∃ k n:Nat,k≤l.length∧i=.int .i64 k∧l.take k=m.take k∧wr=w.drewN n) (fun i _=>l.length-(intOf i).toNat)
  case atStart=>exact ⟨0,0,Nat.zero_le _,rfl,rfl,rfl⟩
  case round =>
   obtain ⟨k,n,hk,rfl,heq,rfl⟩:=hrel;have heq:=hid heq
   by_cases hlt:k<l.length
   ·have hlt2:k<m.length:=by have:=hlen'.out;omega
    obtain rfl:=ha (by intro h;simp [h] at hlt);obtain rfl:=hla (by intro h;simp [h] at hlt2);have c1:=hc k hlt;have c2:=hlc k hlt2;have hnext:=hid (fun e=>z6Y hlen'.out hlt heq.out e);have hne:Hid (l.getD k 0≠m.getD k 0→l≠m):=fun h e=>h (by rw [e]);generalize l.getD k 0=x at c1 hnext hne;generalize m.getD k 0=y at c2 hnext hne;clear hc hlc ha hla
    by_cases hxy:x=y
    ·have hb2:(x != y)=false:=by simp [hxy]
     have hxy:=hid hxy;go_wp2_with fail;go_quiet (fail);go_wp2;go_roundw
     case rel=>exact ⟨k+1,_,by omega,by go_num,hnext.out hxy.out,rfl⟩
     case measure=>simp [intOf];omega
    ·have hb2:(x != y)=true:=by simp [hxy]
     have hd:decide (l=m)=false:=decide_eq_false (hne.out hxy);go_wp2_with fail;go_quiet (fail);go_wp2;go_ret;exact ⟨by rw [hd];rfl,n+nq,by simp⟩
   ·have hd:decide (l=m)=true:=decide_eq_true (by have h1:=heq.out;rw [List.take_of_length_le (by omega),List.take_of_length_le (by have:=hlen'.out;omega)] at h1;exact h1);clear hc hlc ha hla;go_wp2_with fail;go_ret;exact ⟨by rw [hd];rfl,_,rfl⟩
 ·have hb:((l.length:Int) != (m.length:Int))=true:=by simp;omega
  have hd:decide (l=m)=false:=decide_eq_false (fun e=>hlen (by rw [e]));clear hc hlc ha hla
  go_enter Tryz.func130,Tryz.ntmps130
  go_wp2_with fail;go_ret;exact ⟨by rw [hd];rfl,0,rfl⟩
theorem z7A (v u:Value) (l m:List (List Int)) (w0:World) (h:z8J .i64 w0 v l) (hm:z8J .i64 w0 u m) :
  Calls Tryz.prog 67 #[v,u] w0 (zp w0 (.bool (decide (l=m))) emp):=by
 have hs:=Sat.start w0;obtain ⟨a,cap,b,off,rfl,hbig,ha,hc⟩:=h.form;obtain ⟨la,lcap,lb,loff,rfl,hlbig,hla,hlc⟩:=hm.form;clear h hm;obtain ⟨z,hz⟩:∃ z,z=decide (l=m):=⟨_,rfl⟩;rw [← hz];have Hz:=hid hz;have Hc:=hid hc;have Hlc:=hid hlc;have Ha:=hid ha;have Hla:=hid hla;clear hc hlc ha hla hz
 by_cases hlen:l.length=m.length
 ·have hb:((l.length:Int) != (m.length:Int))=false:=by simp [hlen]
  have hlen':=hid hlen;clear hlen
  go_enter Tryz.func67,Tryz.ntmps67
  go_wp2_with fail;refine z9 (w0:=w0) ?_;intro w1 hs1;clear hs
  go_loopw [5] (fun i wr=>∃ k:Nat,k≤l.length∧i=.int .i64 k∧l.take k=m.take k∧Sat w0 wr any) (fun i _=>l.length-(intOf i).toNat)
  case atStart=>exact ⟨0,Nat.zero_le _,rfl,rfl,z3⟩
  case round =>
   obtain ⟨k,hk,rfl,heq,hsr⟩:=hrel;clear hs1;have heq:=hid heq
   by_cases hlt:k<l.length
   ·have hlt2:k<m.length:=by have:=hlen'.out;omega
    obtain rfl:=Ha.out (by intro h;simp [h] at hlt);obtain rfl:=Hla.out (by intro h;simp [h] at hlt2);obtain ⟨ra,rn,rc,c1,r1⟩:=Hc.out k hlt;obtain ⟨sa,sn,sc,c2,r2⟩:=Hlc.out k hlt2;have d1:decide (k<l.length)=true:=decide_eq_true hlt;have i1:(k:Int)<(l.length:Int):=by omega
    have i2:(k:Int)<(m.length:Int):=by omega
    have hnext:=hid (fun e=>z8y hlen'.out hlt heq.out e);have hne:Hid (l.getD k []≠m.getD k []→l≠m):=fun h e=>h (by rw [e]);generalize l.getD k []=x at r1 hnext hne;generalize m.getD k []=y at r2 hnext hne;have hA:=hid (fun (w:World) (h:Sat w0 w any)=>zo0 _ _ x y w (r1.later h) (r2.later h));haveI o1:Old w0 b (off+k) (.slice ra rn rc):=⟨c1⟩;haveI o2:Old w0 lb (loff+k) (.slice sa sn sc):=⟨c2⟩;clear r1 r2 c1 c2
    by_cases hxy:x=y
    ·have hx:decide (x=y)=true:=decide_eq_true hxy;rw [hx] at hA;have hxy:=hid hxy;clear hx;go_wp2_with fail;go_quiet ((go_at_call 68;exact z2a (hA.out _ z3)));go_wp2_with fail;go_roundw
     case rel=>exact ⟨k+1,by omega,by go_num,hnext.out hxy.out,z3⟩
     case measure=>simp [intOf];omega
    ·have hx:decide (x=y)=false:=decide_eq_false hxy;rw [hx] at hA;have hd:=hid (Hz.out.trans (decide_eq_false (hne.out hxy)));clear hx hxy;go_wp2_with fail;go_quiet ((go_at_call 68;exact z2a (hA.out _ z3)));go_wp2_with fail;go_ret;refine ⟨?_,z3⟩;rw [hd.out];rfl
   ·have hd:=hid (Hz.out.trans (decide_eq_true (by have h1:=heq.out;rw [List.take_of_length_le (by omega),List.take_of_length_le (by have:=hlen'.out;omega)] at h1;exact h1)));have hkn:k=l.length:=by omega
    subst hkn;have d1:decide (l.length<l.length)=false:=by simp
    clear hlt hk;go_wp2_with fail;go_ret;refine ⟨?_,z3⟩;rw [hd.out];rfl
 ·have hb:((l.length:Int) != (m.length:Int))=true:=by simp;omega
  have hd:=hid (Hz.out.trans (decide_eq_false (fun e=>hlen (by rw [e]))))
  go_enter Tryz.func67,Tryz.ntmps67
  go_wp2_with fail;go_ret;refine ⟨?_,z3⟩;rw [hd.out];rfl
theorem zdk (v u:Value) (l m:List (List Int)) (w0:World) (h:z8J .u32 w0 v l) (hm:z8J .u32 w0 u m) :
  Calls Tryz.prog 65 #[v,u] w0 (zp w0 (.bool (decide (l=m))) emp):=by
 have hs:=Sat.start w0;obtain ⟨a,cap,b,off,rfl,hbig,ha,hc⟩:=h.form;obtain ⟨la,lcap,lb,loff,rfl,hlbig,hla,hlc⟩:=hm.form;clear h hm;obtain ⟨z,hz⟩:∃ z,z=decide (l=m):=⟨_,rfl⟩;rw [← hz];have Hz:=hid hz;have Hc:=hid hc;have Hlc:=hid hlc;have Ha:=hid ha;have Hla:=hid hla;clear hc hlc ha hla hz
 by_cases hlen:l.length=m.length
 ·have hb:((l.length:Int) != (m.length:Int))=false:=by simp [hlen]
  have hlen':=hid hlen;clear hlen
  go_enter Tryz.func65,Tryz.ntmps65
  go_wp2_with fail;refine z9 (w0:=w0) ?_;intro w1 hs1;clear hs
  go_loopw [5] (fun i wr=>∃ k:Nat,k≤l.length∧i=.int .i64 k∧l.take k=m.take k∧Sat w0 wr any) (fun i _=>l.length-(intOf i).toNat)
  case atStart=>exact ⟨0,Nat.zero_le _,rfl,rfl,z3⟩
  case round =>
   obtain ⟨k,hk,rfl,heq,hsr⟩:=hrel;clear hs1;have heq:=hid heq
   by_cases hlt:k<l.length
   ·have hlt2:k<m.length:=by have:=hlen'.out;omega
    obtain rfl:=Ha.out (by intro h;simp [h] at hlt);obtain rfl:=Hla.out (by intro h;simp [h] at hlt2);obtain ⟨ra,rn,rc,c1,r1⟩:=Hc.out k hlt;obtain ⟨sa,sn,sc,c2,r2⟩:=Hlc.out k hlt2;have d1:decide (k<l.length)=true:=decide_eq_true hlt;have i1:(k:Int)<(l.length:Int):=by omega
    have i2:(k:Int)<(m.length:Int):=by omega
    have hnext:=hid (fun e=>z8y hlen'.out hlt heq.out e);have hne:Hid (l.getD k []≠m.getD k []→l≠m):=fun h e=>h (by rw [e]);generalize l.getD k []=x at r1 hnext hne;generalize m.getD k []=y at r2 hnext hne;have hA:=hid (fun (w:World) (h:Sat w0 w any)=>zmB _ _ x y w (r1.later h) (r2.later h));haveI o1:Old w0 b (off+k) (.slice ra rn rc):=⟨c1⟩;haveI o2:Old w0 lb (loff+k) (.slice sa sn sc):=⟨c2⟩;clear r1 r2 c1 c2
    by_cases hxy:x=y
    ·have hx:decide (x=y)=true:=decide_eq_true hxy;rw [hx] at hA;have hxy:=hid hxy;clear hx;go_wp2_with fail;go_quiet ((go_at_call 130;exact z2a (hA.out _ z3)));go_wp2_with fail;go_roundw
     case rel=>exact ⟨k+1,by omega,by go_num,hnext.out hxy.out,z3⟩
     case measure=>simp [intOf];omega
    ·have hx:decide (x=y)=false:=decide_eq_false hxy;rw [hx] at hA;have hd:=hid (Hz.out.trans (decide_eq_false (hne.out hxy)));clear hx hxy;go_wp2_with fail;go_quiet ((go_at_call 130;exact z2a (hA.out _ z3)));go_wp2_with fail;go_ret;refine ⟨?_,z3⟩;rw [hd.out];rfl
   ·have hd:=hid (Hz.out.trans (decide_eq_true (by have h1:=heq.out;rw [List.take_of_length_le (by omega),List.take_of_length_le (by have:=hlen'.out;omega)] at h1;exact h1)));have hkn:k=l.length:=by omega
    subst hkn;have d1:decide (l.length<l.length)=false:=by simp
    clear hlt hk;go_wp2_with fail;go_ret;refine ⟨?_,z3⟩;rw [hd.out];rfl
 ·have hb:((l.length:Int) != (m.length:Int))=true:=by simp;omega
  have hd:=hid (Hz.out.trans (decide_eq_false (fun e=>hlen (by rw [e]))))
  go_enter Tryz.func65,Tryz.ntmps65
  go_wp2_with fail;go_ret;refine ⟨?_,z3⟩;rw [hd.out];rfl
theorem zo7 (r s:R8) (w:World):(Op.equalIn 10000 42 (.agg r.cells.toArray) (.agg s.cells.toArray)).run Tryz.prog w=.ok (decide (r=s)) w:=by
 obtain ⟨a0,a1,a2,a3,a4,a5,a6,a7⟩:=r;obtain ⟨b0,b1,b2,b3,b4,b5,b6,b7⟩:=s;simp only [R8.cells,R8.mk.injEq];rw [show (10000:Nat)=9999+1 from rfl,Op.equalIn];simp only [Sem.run_bind,run_underlying Tryz.underlying42,Result.andThen_ok];simp only [Std.Legacy.Range.forIn_eq_forIn_range',Std.Legacy.Range.size,Nat.sub_zero,Nat.add_sub_cancel,Nat.div_one,List.range'_succ,List.range'_zero,List.forIn_cons,List.forIn_nil]
 go_simp
 by_cases h0:a0=b0
 case neg=>simp [h0]
 subst h0
 by_cases h1:a1=b1
 case neg=>simp [h1]
 subst h1
 by_cases h2:a2=b2
 case neg=>simp [h2]
 subst h2
 by_cases h3:a3=b3
 case neg=>simp [h3]
 subst h3
 by_cases h4:a4=b4
 case neg=>simp [h4]
 subst h4
 by_cases h5:a5=b5
 case neg=>simp [h5]
 subst h5
 by_cases h6:a6=b6
 case neg=>simp [h6]
 subst h6
 by_cases h7:a7=b7<;>simp [h7]
theorem zaX (a1 a2:Int) (r1 r2:R8) (v1 v2:Value) (l1 l2:List Int) (w0:World) (h1:RdN .u32 w0 v1 l1) (h2:RdN .u32 w0 v2 l2) :
  Calls Tryz.prog 64 #[.agg (cxL a1 r1 v1).toArray,.agg (cxL a2 r2 v2).toArray] w0 (zp w0 (.bool (decide (a1=a2∧r1=r2∧l1=l2))) emp):=by
 have hs:=Sat.start w0;obtain ⟨a,cap,b,off,rfl,hcap,hbig,ha,hc⟩:=h1;obtain ⟨la,lcap,lb,loff,rfl,hlcap,hlbig,hla,hlc⟩:=h2;unfold maxLen at hbig hlbig;have Ha:=hid ha;have Hc:=hid hc;have Hla:=hid hla;have Hlc:=hid hlc;clear ha hc hla hlc;have hq:=fun w:World=>zo7 r1 r2 w;obtain ⟨x0,x1,x2,x3,x4,x5,x6,x7⟩:=r1;obtain ⟨y0,y1,y2,y3,y4,y5,y6,y7⟩:=r2;simp only [R8.cells] at hq;obtain ⟨z,hz⟩:∃ z,z=decide (a1=a2∧(⟨x0,x1,x2,x3,x4,x5,x6,x7⟩:R8)=⟨y0,y1,y2,y3,y4,y5,y6,y7⟩∧l1=l2):=⟨_,rfl⟩;rw [← hz];have Hz:=hid hz;clear hz;show Calls Tryz.prog 64 #[.agg #[.int .i64 a1,.int .u32 x0,.int .u32 x1,.int .u32 x2,.int .u32 x3,.int .u32 x4,.int .u32 x5,.int .u32 x6,.int .u32 x7,.slice a l1.length cap],.agg #[.int .i64 a2,.int .u32 y0,.int .u32 y1,.int .u32 y2,.int .u32 y3,.int .u32 y4,.int .u32 y5,.int .u32 y6,.int .u32 y7,.slice la l2.length lcap]] w0 _
 by_cases e1:a1=a2
 case neg =>
  have hb:(a1 != a2)=true:=by simp [e1]
  have hd:z=false:=Hz.out.trans (decide_eq_false fun h=>e1 h.1);subst hd;clear e1 hq Hz
  go_enter Tryz.func64,Tryz.ntmps64
  go_wp2_with fail;go_ret;exact ⟨rfl,z3⟩
 subst e1
 by_cases e2:(⟨x0,x1,x2,x3,x4,x5,x6,x7⟩:R8)=⟨y0,y1,y2,y3,y4,y5,y6,y7⟩
 case neg =>
  have hd:z=false:=Hz.out.trans (decide_eq_false fun h=>e2 h.2.1);subst hd;simp only [decide_eq_false e2] at hq;clear e2 Hz
  go_enter Tryz.func64,Tryz.ntmps64
  go_wp2_with fail;go_ret;exact ⟨rfl,z3⟩
 simp only [decide_eq_true e2] at hq
 by_cases e3:l1.length=l2.length
 case neg =>
  have hd:z=false:=Hz.out.trans (decide_eq_false fun h=>e3 (by rw [h.2.2]));subst hd;have hb2:((l1.length:Int) != (l2.length:Int))=true:=by simp;omega
  clear e2 e3 Hz
  go_enter Tryz.func64,Tryz.ntmps64
  go_wp2_with fail;go_ret;exact ⟨rfl,z3⟩
 have hb2:((l1.length:Int) != (l2.length:Int))=false:=by simp [e3]
 have E:=hid (And.intro e2 e3);clear e2 e3
 go_enter Tryz.func64,Tryz.ntmps64
 go_wp2_with fail;refine z9 (w0:=w0) ?_;intro w1 hs1;clear hs
 go_loopw [5] (fun i wr=>∃ k:Nat,k≤l1.length∧i=.int .i64 k∧l1.take k=l2.take k∧Sat w0 wr (pts w0.heap.size 0 [.int .i64 a1,.int .u32 x0,.int .u32 x1,.int .u32 x2,.int .u32 x3,.int .u32 x4,.int .u32 x5,.int .u32 x6,.int .u32 x7,.slice a l1.length cap]*(pts (w0.heap.size+1) 0 [.int .i64 a1,.int .u32 y0,.int .u32 y1,.int .u32 y2,.int .u32 y3,.int .u32 y4,.int .u32 y5,.int .u32 y6,.int .u32 y7,.slice la l2.length lcap]*any))) (fun i _=>l1.length-(intOf i).toNat)
 case atStart=>exact ⟨0,Nat.zero_le _,rfl,rfl,z3⟩
 case round =>
  obtain ⟨k,hk,rfl,heq,hsr⟩:=hrel;clear hs1;have heq:=hid heq
  by_cases hlt:k<l1.length
  ·have hlt2:k<l2.length:=by have:=E.out.2;omega
   obtain rfl:=Ha.out (by intro h;simp [h] at hlt);obtain rfl:=Hla.out (by intro h;simp [h] at hlt2);have c1:=Hc.out k hlt;have c2:=Hlc.out k hlt2;have d1:decide (k<l1.length)=true:=decide_eq_true hlt;have i1:(k:Int)<(l1.length:Int):=by omega
   have i2:(k:Int)<(l2.length:Int):=by omega
   have hnext:=hid (fun e=>z6Y E.out.2 hlt heq.out e);have hne:Hid (l1.getD k 0≠l2.getD k 0→l1≠l2):=fun h e=>h (by rw [e]);generalize l1.getD k 0=x at c1 hnext hne;generalize l2.getD k 0=y at c2 hnext hne;haveI o1:Old w0 b (off+k) (.int .u32 x):=⟨c1⟩;haveI o2:Old w0 lb (loff+k) (.int .u32 y):=⟨c2⟩;clear c1 c2
   by_cases hxy:x=y
   ·have hb3:(x != y)=false:=by simp [hxy]
    have hxy:=hid hxy;go_wp2_with fail;go_quiet (fail);go_wp2_with fail;go_roundw
    case rel=>exact ⟨k+1,by omega,by go_num,hnext.out hxy.out,z3⟩
    case measure=>simp [intOf];omega
   ·have hb3:(x != y)=true:=by simp [hxy]
    have hd:z=false:=Hz.out.trans (decide_eq_false fun h=>hne.out hxy h.2.2);have hd:=hid hd;clear hxy;go_wp2_with fail;go_quiet (fail);go_wp2_with fail;go_ret;refine ⟨?_,z3⟩;rw [hd.out];rfl
  ·have hd:z=true:=Hz.out.trans (decide_eq_true (by
    refine ⟨by first | rfl | trivial,E.out.1,?_⟩;have h1:=heq.out;rw [List.take_of_length_le (by omega),List.take_of_length_le (by have:=E.out.2;omega)] at h1;exact h1))
   have hd:=hid hd;have hkn:k=l1.length:=by omega
   subst hkn;have d1:decide (l1.length<l1.length)=false:=by simp
   clear hlt hk;go_wp2_with fail;go_ret;refine ⟨?_,z3⟩;rw [hd.out];rfl
theorem eqB {z:Bool} {p:Prop} (h:z=true↔p) (n:¬ p):z=false:=by cases z;rfl;exact absurd (h.1 rfl) n
theorem z7B (s t:Ts) (v1 v2:Value) (l1 l2:List Int) (z:Bool) (hz:z=true↔(s=t∧l1=l2)) (w0:World) (h1:RdN .u32 w0 v1 l1) (h2:RdN .u32 w0 v2 l2) :
  Calls Tryz.prog 66 #[.agg (tsL s++cxL s.at_ s.rg v1).toArray,.agg (tsL t++cxL t.at_ t.rg v2).toArray] w0 (zp w0 (.bool z) emp):=by
 have hs:=Sat.start w0;have hA:=hid (fun (w:World) (h:Sat w0 w any)=>zaX s.at_ t.at_ s.rg t.rg v1 v2 l1 l2 w (h1.later h) (h2.later h));obtain ⟨a,cap,b,off,rfl,_,_,_,_⟩:=h1;obtain ⟨la,lcap,lb,loff,rfl,_,_,_,_⟩:=h2;have Hz:=hid hz;clear hz;obtain ⟨x,hx⟩:∃ x,x=decide (s.at_=t.at_∧s.rg=t.rg∧l1=l2):=⟨_,rfl⟩;rw [← hx] at hA;have Hx:=hid hx;clear hx;show Calls Tryz.prog 66 #[.agg #[.int .i64 s.st,.int .i64 s.lev,.int .i64 s.on,.int .i64 s.late,.int .u32 s.job,.int .i64 s.at_,.int .u32 s.rg.r0,.int .u32 s.rg.r1,.int .u32 s.rg.r2,.int .u32 s.rg.r3,.int .u32 s.rg.r4,.int .u32 s.rg.r5,.int .u32 s.rg.r6,.int .u32 s.rg.r7,.slice a l1.length cap],.agg #[.int .i64 t.st,.int .i64 t.lev,.int .i64 t.on,.int .i64 t.late,.int .u32 t.job,.int .i64 t.at_,.int .u32 t.rg.r0,.int .u32 t.rg.r1,.int .u32 t.rg.r2,.int .u32 t.rg.r3,.int .u32 t.rg.r4,.int .u32 t.rg.r5,.int .u32 t.rg.r6,.int .u32 t.rg.r7,.slice la l2.length lcap]] w0 _
 change Hid (∀ w,Sat w0 w any→Calls Tryz.prog 64 #[.agg #[.int .i64 s.at_,.int .u32 s.rg.r0,.int .u32 s.rg.r1,.int .u32 s.rg.r2,.int .u32 s.rg.r3,.int .u32 s.rg.r4,.int .u32 s.rg.r5,.int .u32 s.rg.r6,.int .u32 s.rg.r7,.slice a l1.length cap],.agg #[.int .i64 t.at_,.int .u32 t.rg.r0,.int .u32 t.rg.r1,.int .u32 t.rg.r2,.int .u32 t.rg.r3,.int .u32 t.rg.r4,.int .u32 t.rg.r5,.int .u32 t.rg.r6,.int .u32 t.rg.r7,.slice la l2.length lcap]] w _) at hA
 by_cases e1:s.st=t.st
 case neg =>
  have hb:(s.st==t.st)=false:=by simp [e1]
  have hd:z=false:=eqB Hz.out (fun h=>e1 (by rw [h.1]));subst hd;clear Hz hA
  go_enter Tryz.func66,Tryz.ntmps66
  go_wp2_with fail;go_ret;exact ⟨rfl,z3⟩
 have b1:(s.st==t.st)=true:=by simp [e1]
 by_cases e2:s.lev=t.lev
 case neg =>
  have hb:(s.lev==t.lev)=false:=by simp [e2]
  have hd:z=false:=eqB Hz.out (fun h=>e2 (by rw [h.1]));subst hd;clear Hz hA
  go_enter Tryz.func66,Tryz.ntmps66
  go_wp2_with fail;go_ret;exact ⟨rfl,z3⟩
 have b2:(s.lev==t.lev)=true:=by simp [e2]
 by_cases e3:s.on=t.on
 case neg =>
  have hb:(s.on==t.on)=false:=by simp [e3]
  have hd:z=false:=eqB Hz.out (fun h=>e3 (by rw [h.1]));subst hd;clear Hz hA
  go_enter Tryz.func66,Tryz.ntmps66
  go_wp2_with fail;go_ret;exact ⟨rfl,z3⟩
 have b3:(s.on==t.on)=true:=by simp [e3]
 by_cases e4:s.late=t.late
 case neg =>
  have hb:(s.late==t.late)=false:=by simp [e4]
  have hd:z=false:=eqB Hz.out (fun h=>e4 (by rw [h.1]));subst hd;clear Hz hA
  go_enter Tryz.func66,Tryz.ntmps66
  go_wp2_with fail;go_ret;exact ⟨rfl,z3⟩
 have b4:(s.late==t.late)=true:=by simp [e4]
 by_cases e5:s.job=t.job
 case neg =>
  have hb:(s.job==t.job)=false:=by simp [e5]
  have hd:z=false:=eqB Hz.out (fun h=>e5 (by rw [h.1]));subst hd;clear Hz hA
  go_enter Tryz.func66,Tryz.ntmps66
  go_wp2_with fail;go_ret;exact ⟨rfl,z3⟩
 have b5:(s.job==t.job)=true:=by simp [e5]
 have hd:z=x:=by
  have:(s=t∧l1=l2)↔(s.at_=t.at_∧s.rg=t.rg∧l1=l2):=by
   obtain ⟨st,lev,on,late,job,at_,rg⟩:=s;obtain ⟨st',lev',on',late',job',at_',rg'⟩:=t;simp only [Ts.mk.injEq] at *;subst e1;subst e2;subst e3;subst e4;subst e5;simp [and_assoc]
  have h2:=Hz.out.trans this;rw [Hx.out]
  cases z
  ·exact (decide_eq_false fun h=>by have:=h2.2 h;cases this).symm
  ·exact (decide_eq_true (h2.1 rfl)).symm
 subst hd;clear e1 e2 e3 e4 e5 Hz Hx
 go_enter Tryz.func66,Tryz.ntmps66
 go_wp2_with fail;refine (hA.out _ z3).mono ?_;rintro en w1 ⟨rfl,hs1⟩;have hs2:=Sat.past (w0:=w0) z6 hs1;clear hs1 hs;go_wp2_with fail;go_ret;exact ⟨rfl,z3⟩
end Go.Proofs.YtlbjjoeocdimfaaGreatDoor
