/-
  Parts of the proof: Awake WorldD WorldA KernNf LStops SameD LNil WorldF WorldG WorldH WorldAw WorldI WorldJ Tie7.
-/
import Derived.ProofKit
import Derived.LaidMore
import Derived.LaidLaws
import Derived.OpenShut
import Derived.ChangeVars
import Derived.Stop.Joined
import Derived.Test.YtlbjjoeocdimfaaGreatDoorKD0
import Derived.Test.YtlbjjoeocdimfaaGreatDoorKD7
import Derived.Test.YtlbjjoeocdimfaaGreatDoorKD9
import Derived.Test.YtlbjjoeocdimfaaGreatDoorKD12
import Derived.Test.YtlbjjoeocdimfaaGreatDoorKD13
import Derived.Test.YtlbjjoeocdimfaaGreatDoorKD15
import Derived.Test.YtlbjjoeocdimfaaGreatDoorKD16
import Derived.Test.YtlbjjoeocdimfaaGreatDoorKD17
set_option linter.unusedVariables false
set_option linter.unusedSimpArgs false
set_option maxHeartbeats 32000000
set_option maxRecDepth 100000
namespace Go.Proofs.YtlbjjoeocdimfaaGreatDoor
open Go.RowKit Go.Sx Go.Dl Go.Lk Go.Rq Go.Au
@[go_sem] theorem zlN (x0 x1 x2 x3 x4 x5 x6 x7 x8 x9 x10 x11 x12 x13 x14 x15 x16 x17 x18 x19 x20 x21 x22 x23 x24 x25 x26 x27 x28:Value) (w:World):Sem.run Tryz.prog (Instr.field 51 (.agg #[x0,x1,x2,x3,x4,x5,x6,x7,x8,x9,x10,x11,x12,x13,x14,x15,x16,x17,x18,x19,x20,x21,x22,x23,x24,x25,x26,x27,x28]) 8) w=.ok x17 w:=by kernel_rfl
theorem zr2 {c:Cf}:∀ (n:Nat) (w:Wd),(Wd.run c n w).tape=w.tape
 | 0,_=>rfl
 | n+1,w=>by
  rw [zq9];split
  ·exact zr2 n (w.one c)
  ·rfl
section
variable (g b:Nat) (y:Fx) (c:Cf) (ta:Option Addr) (tc:Nat) (W:Wd)
instance wdK:zC (wdP g b y c ta tc W) g 0 (.pointer (some ⟨b,0,none⟩)):=⟨fun hs=>(zqf hs).elim fun aa h=>h.elim fun ac h=>zC.cell h,fun hs=>(zqf hs).elim fun aa h=>h.elim fun ac h=>zC.free (v:=.pointer (some ⟨b,0,none⟩)) h⟩
instance wdD:zC (wdP g b y c ta tc W) g 3 (.int .i64 W.done):=⟨fun hs=>(zqf hs).elim fun aa h=>h.elim fun ac h=>zC.cell h,fun hs=>(zqf hs).elim fun aa h=>h.elim fun ac h=>zC.free (v:=.int .i64 W.done) h⟩
instance wdS:zC (wdP g b y c ta tc W) g 4 (.int .i64 W.steps):=⟨fun hs=>(zqf hs).elim fun aa h=>h.elim fun ac h=>zC.cell h,fun hs=>(zqf hs).elim fun aa h=>h.elim fun ac h=>zC.free (v:=.int .i64 W.steps) h⟩
variable (w0 w:World) (F:HP) (hs:Sat w0 w (wdP g b y c ta tc W*F))
include hs
end
theorem zs2 (g b:Nat) (y:Fx) (c:Cf) (ta:Option Addr) (tc:Nat) (W:Wd) (hW:zr8 c W) (hl:W.tape.length≤65536) (n:Int) (hn:-9223372036854775808≤n∧n≤9223372036854775807) (w0 w:World) (hT:Tab w0) (F:HP) (hs:Sat w0 w (wdP g b y c ta tc W*F)) :
  Calls Tryz.prog 38 #[.pointer (some ⟨g,0,none⟩),.int .i64 n] w (Ret w0 fun v=>z7 v (Wd.evs c n.toNat W)*(wdP g b y c ta tc (Wd.run c n.toNat W)*F)):=by
 have HW:=hid hW;have HT:=hid hT;have Hl:=hid hl;have hst:=hW.steps;clear hW hT hl
 go_enter Tryz.func38,Tryz.ntmps38
 go_wp2_with fail;refine z9 (w0:=w0) ?_;intro ww hsw;clear hs
 go_loopw [5,6] (fun ov i wr=>∃ (k:Nat) (oa:Option Addr) (oc:Nat) (L:List Ev),k≤n.toNat∧Hid (L=Wd.evs c k W∧(k=0∨(k:Int)≤(Wd.run c k W).done))∧ov=.slice oa L.length oc∧i=.int .i64 k∧Sat w0 wr (z7 (.slice oa L.length oc) L*(wdP g b y c ta tc (Wd.run c k W)*F))) (fun _ i _=>n.toNat-(intOf i).toNat)
 case atStart=>exact ⟨0,none,0,[],Nat.zero_le _,hid ⟨rfl,.inl rfl⟩,rfl,rfl,by
  refine Sat.perm (P:=wdP g b y c ta tc W*F) ?_ ?_
  ·exact z3
  ·show _=z7 (α:=Ev) (.slice none 0 0) []*_;rw [z03,zm];rfl⟩
 case round =>
  obtain ⟨k,oa,oc,L,hk,hL,rfl,rfl,hsr⟩:=hrel;clear hsw;obtain ⟨Wk,hWk⟩:∃ X,X=Wd.run c k W:=⟨_,rfl⟩;have Hok:Hid (zr8 c Wk):=by rw [hWk];exact hid (zrk k HW.out)
  rw [← hWk] at hsr hL;have HWk:=hid hWk;clear hWk
  by_cases h1:(k:Int)<n
  ·have d1:decide ((k:Int)<n)=true:=decide_eq_true h1
   by_cases h2:(Wk.done:Int)<Wk.steps
   ·have d2:decide ((Wk.done:Int)<Wk.steps)=true:=decide_eq_true h2;have hd6:Wk.done≤65536:=by have:=Hok.out.steps;have:=Hok.out.done;omega
    have hlt:Wk.tape=W.tape:=by rw [HWk.out];exact zr2 k W
    have hLn:=hid (fun w G hs=>zrM g b y c ta tc Wk Hok.out.ar hd6 w0 w G hs);have hVl:=hid (fun (w:World) (G:HP) (hs:Sat w0 w (wdP g b y c ta tc { Wk with ar:=Wk.rest }*G))=>zrO g b y c ta tc { Wk with ar:=Wk.rest } Hok.out.inv.rds (by show Wk.tape.length≤65536;rw [hlt];exact Hl.out) w0 w G hs);have hSt:=hid (fun (w:World) (G:HP) (hs:Sat w0 w (knP b y c Wk.K*G))=>z8n b y c Wk.K Hok.out.inv Hok.out.told Wk.bits (by have:=zrf (Wk.done+1) Wk.ar 0 Hok.out.ar (by decide);show (zq7 _ _ _).1<_;omega) Wk.val (zqV Hok.out) w0 w HT.out G hs);have evv:Wd.val { Wk with ar:=Wk.rest }=Wk.val:=rfl;rw [evv] at hVl;have lb:L.length≤66000000:=by
     have h3:=(zro k HW.out).1;rw [hL.out.1, ];rw [← HWk.out] at h3;omega
    have le:(Wk.K.evs c Wk.bits Wk.val).length≤1000:=zrz Hok.out.inv Hok.out.told _ _;have hnext:=hid (show L++Wk.K.evs c Wk.bits Wk.val=Wd.evs c (k+1) W∧Wd.run c (k+1) W=Wk.one c by
     obtain ⟨a1,a2⟩:=zqT c k 1 W;rw [← HWk.out] at a1 a2;rw [a1,a2,hL.out.1,zq9,zqa,if_pos h2,if_pos h2];exact ⟨by rw [show Wd.evs c 0 (Wk.one c)=[] from rfl,List.append_nil],rfl⟩)
    have hone:Hid (Wk.one c=⟨Wk.K.step c Wk.bits Wk.val,Wk.rest,Wk.tape,Wk.done+1,Wk.steps⟩):=rfl;have hkd:=hid (show k+1≤65537∧k+1≤Wk.done+1 by have:=hL.out.2;omega);clear hlt evv hL;obtain ⟨E,hE⟩:∃ E,E=Wk.K.evs c Wk.bits Wk.val:=⟨_,rfl⟩;obtain ⟨bt,hbt⟩:∃ z,z=Wk.bits:=⟨_,rfl⟩;obtain ⟨vl,hvl⟩:∃ z,z=Wk.val:=⟨_,rfl⟩;obtain ⟨K2,hK2⟩:∃ z,z=Wk.K.step c Wk.bits Wk.val:=⟨_,rfl⟩;rw [← hE] at le hnext hSt;rw [← hK2] at hSt hone;rw [← hbt] at hLn hSt;rw [← hvl] at hVl hSt;clear hE hbt hvl hK2;go_wp2_with fail;go_quiet (fail);go_wp2_with fail;refine z9 (w0:=w0) ?_;intro wq hsq;refine zj (fun w'=>w'.cell? ⟨g,0,none⟩=some (.pointer (some ⟨b,0,none⟩))) [(0,true),(1,true),(2,true),(3,true),(4,true),(5,true),(7,true),(6,false),(8,false),(9,false),(10,false),(11,true)] (by kernel_rfl) (by kernel_rfl) (fun _ _ _ _ h=>h) z4 ?_
    iterate 7 ((first | (refine zpI rfl (by rfl) ?_;apply Exists.intro;refine ⟨fun w hSw=>?_,?_⟩;focus ((try dsimp only at hSw);go_simp;try with_reducible rfl)) | refine zpH rfl (by rfl) ?_);simp only [Act.put,Go.zqA,Go.zqP,Go.zqQ])
    refine z29 rfl (by rfl) (fun K hK=>?_);go_wp2_with fail;refine (hLn.out _ _ Go.Sx.own).mono ?_;rintro en w1 ⟨rfl,hs1⟩;clear hsr hsq;go_wp2_with fail;refine ⟨z4,?_⟩;refine z29 rfl (by rfl) (fun K hK=>?_);go_wp2_with fail;refine (hVl.out _ _ Go.Sx.own).mono ?_;rintro en w2 ⟨rfl,hs2⟩;clear hs1;obtain ⟨aa,ac,hs3⟩:=zqf hs2;clear hs2;go_wp2_with fail;refine ⟨z4,?_⟩;refine z29 rfl (by rfl) (fun K hK=>?_);go_wp2_with fail;refine (hSt.out _ _ Go.Sx.own).mono ?_;rintro en w3 ⟨v3,rfl,hs4⟩;clear hs3;obtain ⟨va,vc,rfl⟩:=hs4.slice_form;go_wp2_with fail;refine ⟨z4,?_⟩;refine z29 rfl (by rfl) (fun K hK=>?_);refine z2J rfl rfl rfl (by omega) ?_;intro ap ac2 aL aw ahL ah1 ah2 ahs _;clear hs4;refine hK _ _ ?_;refine ⟨z4,?_⟩
    iterate 1 ((first | (refine zpI rfl (by rfl) ?_;apply Exists.intro;refine ⟨fun w hSw=>?_,?_⟩;focus ((try dsimp only at hSw);go_simp;try with_reducible rfl)) | refine zpH rfl (by rfl) ?_);simp only [Act.put,Go.zqA,Go.zqP,Go.zqQ])
    refine zB ?_;go_wp2_with fail;go_roundw
    case rel =>
     refine ⟨k+1,ap,ac2,aL,by omega,hid ⟨by rw [ahL,hnext.out.1],.inr (by rw [hnext.out.2,hone.out];have:=hkd.out.2;show ((k+1:Nat):Int)≤((Wk.done+1:Nat):Int);omega)⟩,rfl,by go_num,?_⟩;rw [hnext.out.2,hone.out];refine Sat.perm (zqP (aa:=aa) (ac:=ac) (F:=z7 (.slice ap aL.length ac2) aL*F) ?_) (by ac_rfl);show Sat w0 _ (pts g 0 [.pointer (some ⟨b,0,none⟩),.slice aa Wk.rest.length ac,.slice ta Wk.tape.length tc,.int .i64 ((Wk.done:Int)+1),.int .i64 Wk.steps]*(z7 (.slice aa Wk.rest.length ac) Wk.rest*(z5 .u32 (.slice ta Wk.tape.length tc) Wk.tape*(knP b y c K2*(z7 (.slice ap aL.length ac2) aL*F)))));exact z3
    case measure=>simp [intOf];have:=hkd.out;omega
   ·have d2:decide ((Wk.done:Int)<Wk.steps)=false:=decide_eq_false h2;have he:=hid (show Wd.evs c n.toNat W=L∧Wd.run c n.toNat W=Wk by
     obtain ⟨a1,a2⟩:=zqT c k (n.toNat-k) W;rw [show k+(n.toNat-k)=n.toNat by omega,← HWk.out] at a1 a2;rw [a1,a2,(zq8 h2 _).1,(zq8 h2 _).2,List.append_nil];exact ⟨hL.out.1.symm,rfl⟩)
    clear hL;go_wp2_with fail;go_quiet (fail);go_wp2_with fail;go_ret;refine ⟨_,rfl,?_⟩;rw [he.out.1,he.out.2];show Sat w0 _ (z7 (.slice oa L.length oc) L*(wdP g b y c ta tc Wk*F));exact z3
  ·have d1:decide ((k:Int)<n)=false:=decide_eq_false h1;have hkn:k=n.toNat:=by omega
   have he:=hid (show Wd.evs c n.toNat W=L∧Wd.run c n.toNat W=Wk by rw [← hkn];exact ⟨hL.out.1.symm,HWk.out.symm⟩);clear hL hkn;go_wp2_with fail;go_quiet (fail);go_wp2_with fail;go_ret;refine ⟨_,rfl,?_⟩;rw [he.out.1,he.out.2];show Sat w0 _ (z7 (.slice oa L.length oc) L*(wdP g b y c ta tc Wk*F));exact z3
theorem zqz (l:List Ar) (k:Nat):zqo l (k+1)=(arg l k).step:=rfl
theorem zrj {l:List Ar} {k:Nat} (h:(arg l k).step<zqo l k∨(arg l k).line<0∨16≤(arg l k).line):¬ zqc l k:=fun f=>by
 obtain ⟨a,b,d⟩:=f;omega
theorem zqt {l:List Ar} {k:Nat} (h:∀ j,j<k→zqc l j) (h1:zqc l k):∀ j,j<k+1→zqc l j:=fun j hj=>by
 rcases Nat.lt_or_ge j k with g | g
 ·exact h j g
 ·obtain rfl:j=k:=by omega
  exact h1
theorem zr7 (v:Value) (s:Sc) (w0:World) (hr:zqQ w0 v s):Calls Tryz.prog 42 #[v] w0 (zp w0 (.int .i64 (scE s)) emp):=by
 have hs:=Sat.start w0;obtain ⟨st,A,T⟩:=s;obtain ⟨aa,ac,ta,tc,rfl,hA,hT⟩:=hr;dsimp only at hA hT ⊢;have Hc:=hid hA;obtain ⟨_,_,ag,ao,e0,_,_,ha,hc⟩:=hA;clear hT;simp only [Value.slice.injEq,true_and] at e0
 by_cases g1:st<0
 ·have hx:=hid (zqD (s:=⟨st,A,T⟩) (.inl g1));have d1:decide (st<0)=true:=decide_eq_true g1;rw [hx.out];clear g1 ha hc e0
  go_enter Tryz.func42,Tryz.ntmps42
  go_wp2_with fail;go_ret;exact ⟨rfl,z3⟩
 have d1:decide (st<0)=false:=decide_eq_false g1
 by_cases g2:65536<st
 ·have hx:=hid (zqD (s:=⟨st,A,T⟩) (.inr g2));have d2:decide (65536<st)=true:=decide_eq_true g2;rw [hx.out];clear g1 g2 ha hc e0
  go_enter Tryz.func42,Tryz.ntmps42
  go_wp2_with fail;go_ret;exact ⟨rfl,z3⟩
 have d2:decide (65536<st)=false:=decide_eq_false g2;have G1:=hid (show ¬ (st<0∨65536<st) by omega);clear g1 g2
 by_cases g3:65536<A.length
 ·have hx:=hid (zqp (s:=⟨st,A,T⟩) G1.out (.inl g3));have d3:decide (65536<A.length)=true:=decide_eq_true g3;have e3:decide ((65536:Int)<(A.length:Int))=true:=by simp;omega
  rw [hx.out];clear g3 ha hc e0
  go_enter Tryz.func42,Tryz.ntmps42
  go_wp2_with fail;go_ret;exact ⟨rfl,z3⟩
 have d3:decide (65536<A.length)=false:=decide_eq_false g3;have e3:decide ((65536:Int)<(A.length:Int))=false:=by simp;omega
 by_cases g4:65536<T.length
 ·have hx:=hid (zqp (s:=⟨st,A,T⟩) G1.out (.inr g4));have d4:decide (65536<T.length)=true:=decide_eq_true g4;have e4:decide ((65536:Int)<(T.length:Int))=true:=by simp;omega
  rw [hx.out];clear g3 g4 ha hc e0
  go_enter Tryz.func42,Tryz.ntmps42
  go_wp2_with fail;go_ret;exact ⟨rfl,z3⟩
 have d4:decide (65536<T.length)=false:=decide_eq_false g4;have e4:decide ((65536:Int)<(T.length:Int))=false:=by simp;omega
 have G2:=hid (show ¬ (65536<A.length∨65536<T.length) by omega);have hAl:A.length≤65536:=by omega
 obtain ⟨rfl,rfl⟩:=e0;have Ha:=hid ha;have Hx:=hid hc;clear g3 g4 ha hc
 go_enter Tryz.func42,Tryz.ntmps42
 go_wp2_with fail;refine z9 (w0:=w0) ?_;intro ww hsw;clear hs
 go_loopw [3,29] (fun lv i wr=>∃ (k:Nat) (la:Int),k≤A.length∧Hid (la=zqo A k)∧lv=.int .i64 la∧i=.int .i64 k∧(∀ j,j<k→zqc A j)∧Sat w0 wr (pts w0.heap.size 0 [.slice aa A.length ac,.slice ta T.length tc,.int .i64 st]*any)) (fun _ i _=>A.length-(intOf i).toNat)
 case atStart=>exact ⟨0,1,Nat.zero_le _,hid rfl,rfl,rfl,fun j hj=>absurd hj (by omega),z3⟩
 case round =>
  obtain ⟨k,la,hk,hla,rfl,rfl,hb,hsr⟩:=hrel;clear hsw;have Hb:=hid hb;clear hb
  by_cases hlt:k<A.length
  ·have f3:decide (k<A.length)=true:=decide_eq_true hlt;have i3:(k:Int)<(A.length:Int):=by omega
   obtain rfl:=Ha.out (by intro h;simp [h] at hlt);obtain ⟨x,hx⟩:∃ x,x=arg A k:=⟨_,rfl⟩;have oc:∀ c u,c<2→(zqj.enc x)[c]?=some u→w0.cell? ⟨ag,ao+k*2+c,none⟩=some u:=fun c u hc6 he=>z2i Hx.out hlt hc6 (by show (zqj.enc (arg A k))[c]?=some u;rw [← hx];exact he);haveI o0:Old w0 ag (ao+k*2) (.int .i64 x.step):=⟨oc 0 _ (by decide) rfl⟩;haveI o1:Old w0 ag (ao+k*2+1) (.int .i64 x.line):=⟨oc 1 _ (by decide) rfl⟩;have hbad:=hid fun (h:x.step<la∨x.line<0∨16≤x.line)=>zrl (s:=⟨st,A,T⟩) G1.out G2.out (k:=k) hlt (zrj (by rw [← hx,← hla.out];exact h));have hgood:=hid fun (h:¬ (x.step<la∨x.line<0∨16≤x.line))=>(show zqc A k by unfold zqc;rw [← hx,← hla.out];omega);have hnx:=hid (show x.step=zqo A (k+1) by rw [zqz,← hx]);clear oc hx hla;obtain ⟨xs,xl⟩:=x;dsimp only at hbad hgood hnx o0 o1
   by_cases b1:xs<la
   ·have q1:decide (xs<la)=true:=decide_eq_true b1;rw [hbad.out (.inl b1)];clear b1 hbad hgood hnx;go_wp2_with fail;go_ret;exact ⟨rfl,z3⟩
   have q1:decide (xs<la)=false:=decide_eq_false b1
   by_cases b2:xl<0
   ·have q2:decide (xl<0)=true:=decide_eq_true b2;rw [hbad.out (.inr (.inl b2))];clear b1 b2 hbad hgood hnx;go_wp2_with fail;go_ret;exact ⟨rfl,z3⟩
   have q2:decide (xl<0)=false:=decide_eq_false b2
   by_cases b3:16≤xl
   ·have q3:decide (16≤xl)=true:=decide_eq_true b3;rw [hbad.out (.inr (.inr b3))];clear b1 b2 b3 hbad hgood hnx;go_wp2_with fail;go_ret;exact ⟨rfl,z3⟩
   have q3:decide (16≤xl)=false:=decide_eq_false b3;have hb2:Hid (∀ j,j<k+1→zqc A j):=hid (zqt Hb.out (hgood.out (by omega)));clear b1 b2 b3 hbad hgood;go_wp2_with fail;go_roundw
   case rel=>exact ⟨k+1,xs,by omega,hnx,rfl,by go_num,hb2.out,z3⟩
   case measure=>simp [intOf];omega
  ·have hkl:k=A.length:=by omega
   subst hkl;have f3:decide (A.length<A.length)=false:=by simp
   have hx:=hid (zrC (s:=⟨st,A,T⟩) G1.out G2.out Hb.out);clear hlt hla hk;go_wp2_with fail;go_ret;refine ⟨?_,z3⟩;show Ending.returned (.int .i64 0)=.returned (.int .i64 (scE ⟨st,A,T⟩));rw [hx.out]
theorem z92 (v:Value) (c:Cf) (rg:z6B c) (w0:World) (hr:z8I w0 v c) (hok:(z5g c).err≠0) :
  Calls Tryz.prog 14 #[v] w0 (zp w0 (.tuple #[.pointer none,ftV (z5g c)]) emp):=by
 have hs:=Sat.start w0;have hA:=hid (fun (w:World) (h:Sat w0 w any)=>z9W v c rg w (hr.later h));obtain ⟨ta,la,sa,qa,ma,tc,lc,sc,qc,mc,rfl,h1,h2,h3,h4,h5⟩:=hr.form;clear hr h1 h2 h3 h4 h5;have e1:((z5g c).err==0)=false:=by simp [hok]
 have e2:((z5g c).err != 0)=true:=by simp [hok]
 go_enter Tryz.func14,Tryz.ntmps14
 go_wp2_with fail;refine (hA.out _ z3).mono ?_;rintro en w1 ⟨rfl,hs1⟩;have hs2:=Sat.past (w0:=w0) z6 hs1;clear hs1 hs;unfold ftV;go_wp2_with fail;refine z9 (w0:=w0) ?_;intro wx hsx;go_still_tail 2,(by kernel_rfl);change wpList _ _ _ _ _ wx.drew;go_wp2_with fail;go_returns;exact ⟨rfl,z3⟩
theorem z4u {c:Cf} (h:z7T c):z5a c :=
 ⟨by have:=h.nt;omega,by have:=h.nl;omega,by have:=h.ns;omega,by have:=h.nq;omega,by have:=h.nm;omega,fun t ht=>by have:=(h.t t ht).2.2.2.2.2;omega,fun t ht=>by have:=(h.l t ht).2;omega⟩
theorem z9Q {f:Nat→HP} {n i:Nat} (h:i<n):∃ R,z0F f n=f i*R:=by
 obtain ⟨R,e⟩:=z8M f h;exact ⟨R,by rw [← e (f i),z10]⟩
theorem z4T {w0 w:World} {κ:IntKind} {v:Value} {ll:List (List Int)} {F:HP} (hs:Sat w0 w (rwP κ v ll*F)):z8J κ w v ll:=by
 obtain ⟨ms,h⟩:=hs.ex_out;obtain ⟨e,h⟩:=(h.perm (zb _ _ _)).pur_out;have h1:Sat w0 w (z7 v ms*(zZ κ ms (fun i=>ll.getD i []) ll.length*F)):=h.perm (by ac_rfl);refine ⟨ms,h1.rdR,e,fun i hi=>?_⟩;obtain ⟨R,er⟩:=z9Q (f:=fun i=>z5 κ (ms.getD i mv0).v (ll.getD i [])) hi;have h2:Sat w0 w (z5 κ (ms.getD i mv0).v (ll.getD i [])*(R*(z7 v ms*F))):=h1.perm (by unfold zZ;rw [er];ac_rfl);exact h2.rdN
theorem zmx {w0 w:World} {v:Value} {l:List (Ts×List Int)} {F:HP} (hs:Sat w0 w (tkP v l*F)):zj0 w v l:=by
 obtain ⟨ts,h⟩:=hs.ex_out;obtain ⟨e,h⟩:=(h.perm (zb _ _ _)).pur_out;have h1:Sat w0 w (z7 v ts*(z9O ts (fun i=>(l.getD i (ts0,[])).2) l.length*F)):=h.perm (by ac_rfl);refine ⟨ts,h1.rdR,e,fun i hi=>?_⟩;obtain ⟨R,er⟩:=z9Q (f:=fun i=>z5 .u32 (.slice (ts.getD i tr0).a (ts.getD i tr0).n (ts.getD i tr0).c) (l.getD i (ts0,[])).2) hi;have h2:Sat w0 w (z5 .u32 (.slice (ts.getD i tr0).a (ts.getD i tr0).n (ts.getD i tr0).c) (l.getD i (ts0,[])).2*(R*(z7 v ts*F))):=h1.perm (by unfold z9O;rw [er];ac_rfl);exact h2.rdN
theorem isN {κ:IntKind} {w:World} {v:Value} {l:List Int} (h:RdN κ w v l):∃ (p:Option Addr) (n c:Nat),v=.slice p n c:=by
 obtain ⟨a,c,e⟩:=z4r h;exact ⟨a,_,c,e⟩
theorem isR {α:Type} {sz:Nat} [E:Enc α sz] {w:World} {v:Value} {l:List α} (h:RdR w v l):∃ (p:Option Addr) (n c:Nat),v=.slice p n c:=by
 obtain ⟨a,c,e⟩:=zcc h;exact ⟨a,_,c,e⟩
theorem isW {κ:IntKind} {w:World} {v:Value} {l:List (List Int)} (h:z8J κ w v l):∃ (p:Option Addr) (n c:Nat),v=.slice p n c:=by
 obtain ⟨a,c,_,_,e,_⟩:=h.form;exact ⟨a,_,c,e⟩
theorem isT {w:World} {v:Value} {l:List (Ts×List Int)} (h:zj0 w v l):∃ (p:Option Addr) (n c:Nat),v=.slice p n c:=by
 obtain ⟨a,c,_,_,e,_⟩:=h.form;exact ⟨a,_,c,e⟩
theorem zcn {w0 w:World} {s:Sn} {y:Sv} {F:HP} (hs:Sat w0 w (stH y s*F)):∃ (pim:Option Addr) (nim:Nat) (cim:Nat) (pmm:Option Addr) (nmm:Nat) (cmm:Nat) (ptt:Option Addr) (ntt:Nat) (ctt:Nat) (prr:Option Addr) (nrr:Nat) (crr:Nat) (poo:Option Addr) (noo:Nat) (coo:Nat) (pll:Option Addr) (nll:Nat) (cll:Nat) (pss:Option Addr) (nss:Nat) (css:Nat) (pkk:Option Addr) (nkk:Nat) (ckk:Nat) (pqq:Option Addr) (nqq:Nat) (cqq:Nat) (psd:Option Addr) (nsd:Nat) (csd:Nat) (prc:Option Addr) (nrc:Nat) (crc:Nat) (pdd:Option Addr) (ndd:Nat) (cdd:Nat),y=⟨.slice pim nim cim,.slice pmm nmm cmm,.slice ptt ntt ctt,.slice prr nrr crr,.slice poo noo coo,.slice pll nll cll,.slice pss nss css,.slice pkk nkk ckk,.slice pqq nqq cqq,.slice psd nsd csd,.slice prc nrc crc,.slice pdd ndd cdd⟩:=by
 unfold stH at hs;have h1:=hs.perm (zb _ _ _);have h2:=h1.drop.perm (zb _ _ _);have h3:=h2.drop.perm (zb _ _ _);have h4:=h3.drop.perm (zb _ _ _);have h5:=h4.drop.perm (zb _ _ _);have h6:=h5.drop.perm (zb _ _ _);have h7:=h6.drop.perm (zb _ _ _);have h8:=h7.drop.perm (zb _ _ _);have h9:=h8.drop.perm (zb _ _ _);have h10:=h9.drop.perm (zb _ _ _);have h11:=h10.drop.perm (zb _ _ _);obtain ⟨pim,nim,cim,eim⟩:=isN h1.rdN;obtain ⟨pmm,nmm,cmm,emm⟩:=isW (z4T h2);obtain ⟨ptt,ntt,ctt,ett⟩:=isT (zmx h3);obtain ⟨prr,nrr,crr,err⟩:=isW (z4T h4);obtain ⟨poo,noo,coo,eoo⟩:=isN h5.rdN;obtain ⟨pll,nll,cll,ell⟩:=isW (z4T h6);obtain ⟨pss,nss,css,ess⟩:=isN h7.rdN;obtain ⟨pkk,nkk,ckk,ekk⟩:=isW (z4T h8);obtain ⟨pqq,nqq,cqq,eqq⟩:=isW (z4T h9);obtain ⟨psd,nsd,csd,esd⟩:=isW (z4T h10);obtain ⟨prc,nrc,crc,erc⟩:=isW (z4T h11);obtain ⟨pdd,ndd,cdd,edd⟩:=isR h11.drop.rdR;refine ⟨pim,nim,cim,pmm,nmm,cmm,ptt,ntt,ctt,prr,nrr,crr,poo,noo,coo,pll,nll,cll,pss,nss,css,pkk,nkk,ckk,pqq,nqq,cqq,psd,nsd,csd,prc,nrc,crc,pdd,ndd,cdd,?_⟩
 cases y
 simp only at eim emm ett err eoo ell ess ekk eqq esd erc edd;simp only [eim,emm,ett,err,eoo,ell,ess,ekk,eqq,esd,erc,edd]
abbrev zsP:List Value:=[.int .u64 0,.int .u64 0,.int .i64 0,.int .i64 0,.int .i64 0,.int .u32 0,.int .u32 0,.int .u32 0,.int .u32 0,.int .u32 0,.int .u32 0,.int .u32 0,.int .u32 0,.slice none 0 0,.slice none 0 0,.int .u32 0,.int .u32 0,.slice none 0 0,.slice none 0 0,.slice none 0 0,.slice none 0 0,.slice none 0 0,.slice none 0 0,.slice none 0 0,.slice none 0 0,.slice none 0 0,.slice none 0 0,.int .u64 0,.bool false]
theorem zr3 {w0 w : World} {v : Value} {s : Sn} {F : HP} (hs : Sat w0 w (stP v s * F)) : ∃ cl : List Value,v = .agg cl.toArray ∧ cl.length = 29 ∧ cl.all (·.oneCell') = true ∧ Sat w0 w (stP (.agg cl.toArray) s * F):=by
 obtain ⟨y,rfl,h⟩:=z9H hs;obtain ⟨pim,nim,cim,pmm,nmm,cmm,ptt,ntt,ctt,prr,nrr,crr,poo,noo,coo,pll,nll,cll,pss,nss,css,pkk,nkk,ckk,pqq,nqq,cqq,psd,nsd,csd,prc,nrc,crc,pdd,ndd,cdd,rfl⟩:=zcn h;exact ⟨_,rfl,rfl,rfl,hs⟩
theorem zqw {w0 w : World} {v : Value} {s : Sn} {F : HP} (hs : Sat w0 w (stP v s * F)) : ∃ cl : List Value,v = .agg cl.toArray ∧ cl.length = 29 ∧ cl.all (·.oneCell') = true ∧ (cl[0]? = some (.int .u64 s.count) ∧ cl[1]? = some (.int .u64 s.cycle) ∧ cl[15]? = some (.int .u32 s.pend) ∧ cl[27]? = some (.int .u64 s.reads) ∧ cl[28]? = some (.bool s.stopped)) ∧ Sat w0 w (stP (.agg cl.toArray) s * F):=by
 obtain ⟨y,rfl,h⟩:=z9H hs;obtain ⟨pim,nim,cim,pmm,nmm,cmm,ptt,ntt,ctt,prr,nrr,crr,poo,noo,coo,pll,nll,cll,pss,nss,css,pkk,nkk,ckk,pqq,nqq,cqq,psd,nsd,csd,prc,nrc,crc,pdd,ndd,cdd,rfl⟩:=zcn h;exact ⟨_,rfl,rfl,rfl,⟨rfl,rfl,rfl,rfl,rfl⟩,hs⟩
theorem zrB {b j:Nat} {cl:List Value} {v:Value} (h:cl[j]?=some v):zC (pts b 0 cl) b j v :=
 ⟨fun hs=>by have:=hs.cell h;rwa [Nat.zero_add] at this,fun hs=>by have:=hs.frz (j:=j) (List.getElem?_eq_some_iff.1 h).1;rwa [Nat.zero_add] at this⟩
theorem zqv {P:Program} {w0 w:World} {F:HP} {fn:Func} {p q r b o:Nat} {ty:TypeId} {tmps:Array Value} {cells:List Value} {d:TypeDesc} (h:fn.results=#[.tmp p,.cell q ty,.tmp r]) (hp:tmps.getD q undef=.pointer (some ⟨b,o,none⟩)) (hs:Sat w0 w (pts b o cells*F))
  (hu : P.underlying ty = some d) (hd : d.isRow = true) (hi : (P.info? ty).map (·.size) = some cells.length) : (results fn tmps).run P w = .ok (.tuple #[tmps.getD p undef,.agg cells.toArray,tmps.getD r undef]) w:=by
 have hp':tmps[q]?.getD undef=.pointer (some ⟨b,o,none⟩):=by simpa using hp
 simp [results,h,hp',asAddr,run_loadVar_mid w b o ty cells d hs.range hu hd hi]
theorem zrN (g b:Nat) (y:Fx) (c:Cf) (ta:Option Addr) (tc:Nat) (W:Wd) (hW:zr8 c W) (w0 w:World) (F:HP) (hs:Sat w0 w (wdP g b y c ta tc W*F)) :
  Calls Tryz.prog 40 #[.pointer (some ⟨g,0,none⟩)] w (Ret w0 fun v=>stP v (W.K.st c)*(wdP g b y c ta tc W*F)):=by
 obtain ⟨aa,ac,hs⟩:=zqf hs;have hI:=hW.inv;clear hW
 go_enter Tryz.func40,Tryz.ntmps40
 go_wp2_with fail;refine (zbP b y c W.K hI w0 _ _ Go.Sx.own).mono ?_;rintro en w1 ⟨v1,rfl,hs1⟩;obtain ⟨cl,rfl,hcl,hone,hs2⟩:=zr3 hs1;clear hs hs1;go_wp2_with (refine z09 (w0:=w0) (cells:=cl) (old:=zsP) rfl rfl rfl rfl Go.Sx.own (by rw [hcl];rfl) (by rw [hcl];kernel_rfl) hone ?_;intro w5 hs5);refine bodyPost_ret (z3p Tryz.results40 rfl hs5 Tryz.underlying51 rfl (by rw [hcl];kernel_rfl)) rfl ?_;refine ⟨_,rfl,?_⟩;refine Sat.perm (zqP (aa:=aa) (ac:=ac) (F:=stP (.agg cl.toArray) (W.K.st c)*F) ?_) (by ac_rfl);exact z3
theorem zrE (v:Value) (l:List Ar) (w0 w:World) (F:HP) (hs:Sat w0 w F) (h:RdR w v l) (hl:l.length≤1000000) :
  Calls Tryz.prog 112 #[v] w (Ret w0 fun v'=>z7 v' l*F):=by
 obtain ⟨a,cap,b,off,rfl,hcap,hbig,ha,hc⟩:=id h;have hnw:=h.news;clear hc ha;have q:∀ (w:World) (a:Option Addr) (n c:Nat),(binOp .eql 79 (.slice a n c) (.slice none 0 0)).run Tryz.prog w=.ok (.bool a.isNone) w:=fun w a n c=>Lib.run_eql_slice_nil w _ _ a n c 0 0 Tryz.underlying79
 cases a with
 | none =>
  have h0:=hnw.2.1 rfl;have hl0:l=[]:=List.eq_nil_of_length_eq_zero h0;subst hl0;clear h hnw
  go_enter Tryz.func112,Tryz.ntmps112
  go_wp2;go_ret;exact ⟨_,rfl,hs.slice_nil 2⟩
 | some ad =>
  go_enter Tryz.func112,Tryz.ntmps112
  go_wp2_with (at_builtin;refine z00 (by rfl) (.tmp 5) (.tmp 6) (by rfl) zry (by rfl) (hs.empty_slice 2 86) (some ad) l.length cap (cellsOf l) (by rfl) (by rw [zJ]) (by simp) (fun a' ha' j u hj=>z1i (hnw.2.2 a' ha' j u hj) _) (z1f l) (by unfold maxLen;omega) (by omega) ?_);intro v' w' hs' _;go_wp2;go_ret;exact ⟨_,rfl,by simpa [z7] using hs'⟩
theorem zrF (v:Value) (l:List Int) (w0 w:World) (F:HP) (hs:Sat w0 w F) (h:RdN .u32 w v l) (hl:l.length≤1000000) :
  Calls Tryz.prog 74 #[v] w (Ret w0 fun v'=>z5 .u32 v' l*F):=by
 obtain ⟨a,cap,b,off,rfl,hcap,hbig,ha,hc⟩:=id h;have hnw:=h.news;clear hc ha;have q:∀ (w:World) (a:Option Addr) (n c:Nat),(binOp .eql 43 (.slice a n c) (.slice none 0 0)).run Tryz.prog w=.ok (.bool a.isNone) w:=fun w a n c=>Lib.run_eql_slice_nil w _ _ a n c 0 0 Tryz.underlying43
 cases a with
 | none =>
  have h0:=hnw.2.1 rfl;have hl0:l=[]:=List.eq_nil_of_length_eq_zero h0;subst hl0;clear h hnw
  go_enter Tryz.func74,Tryz.ntmps74
  go_wp2;go_ret;exact ⟨_,rfl,hs.slice_nil 1⟩
 | some ad =>
  go_enter Tryz.func74,Tryz.ntmps74
  go_wp2_with (at_builtin;refine z00 (by rfl) (.tmp 5) (.tmp 6) (by rfl) zjU (by rfl) (hs.empty_slice 1 25) (some ad) l.length cap (l.map (Value.int .u32)) (by rfl) (by simp) (by simp) (fun a' ha' j u hj=>z1i (hnw.2.2 a' ha' j u hj) _) (by intro u hu;simp at hu;obtain ⟨i,_,rfl⟩:=hu;rfl) (by unfold maxLen;omega) (by omega) ?_);intro v' w' hs' _;go_wp2;go_ret;exact ⟨_,rfl,by simpa [z5] using hs'⟩
theorem zrR {c:Cf} {s:Sc} {w0 w:World} {g b:Nat} {y:Fx} {ta na:Option Addr} {tc nc:Nat} (hs:Sat w0 w (pts g 0 [.pointer (some ⟨b,0,none⟩),.slice na s.ar.length nc,.slice ta s.tape.length tc,.int .i64 0,.int .i64 s.steps]*(z7 (.slice na s.ar.length nc) s.ar*(z5 .u32 (.slice ta s.tape.length tc) s.tape*knP b y c (z34 c))))) :
  Sat w0 w (ex fun g':Nat=>ex fun b:Nat=>ex fun y:Fx=>ex fun ta:Option Addr=>ex fun tc:Nat=>pur (Value.tuple #[.pointer (some ⟨g,0,none⟩),.int .i64 0]=.tuple #[.pointer (some ⟨g',0,none⟩),.int .i64 0])*wdP g' b y c ta tc (zqA c s)):=by
 have h1:Sat w0 w (wdP g b y c ta tc (zqA c s)*emp):=zqP (aa:=na) (ac:=nc) (hs.perm (by rw [zz];rfl));exact (Sat.ex_in g (Sat.ex_in b (Sat.ex_in y (Sat.ex_in ta (Sat.ex_in tc ((Sat.pur_in rfl h1).perm (zb _ _ _).symm)))))).perm (zz _)
theorem zrJ {c:Cf} {s:Sc} {w0 w:World} {F:HP} {v':Value} (hs:Sat w0 w ((ex fun g':Nat=>ex fun b:Nat=>ex fun y:Fx=>ex fun ta:Option Addr=>ex fun tc:Nat=>pur (v'=.tuple #[.pointer (some ⟨g',0,none⟩),.int .i64 0])*wdP g' b y c ta tc (zqA c s))*F)) :
  ∃ g b y ta tc,v'=.tuple #[.pointer (some ⟨g,0,none⟩),.int .i64 0]∧Sat w0 w (wdP g b y c ta tc (zqA c s)*F):=by
 obtain ⟨g,h⟩:=hs.ex_out;obtain ⟨b,h⟩:=h.ex_out;obtain ⟨y,h⟩:=h.ex_out;obtain ⟨ta,h⟩:=h.ex_out;obtain ⟨tc,h⟩:=h.ex_out;obtain ⟨e,h⟩:=(h.perm (zb _ _ _)).pur_out;exact ⟨g,b,y,ta,tc,e,h⟩
theorem zqO (v u:Value) (c:Cf) (s:Sc) (rg:z6B c) (w0:World) (hr:z8I w0 v c) (hq:zqQ w0 u s) (hok:(z5g c).err≠0) :
  Calls Tryz.prog 37 #[v,u] w0 (zp w0 (.tuple #[.pointer none,.int .i64 3]) emp):=by
 have hs:=Sat.start w0;have hN:=hid (fun (w:World) (h:Sat w0 w any)=>z92 v c rg w (hr.later h) hok);obtain ⟨ta,la,sa,qa,ma,tc,lc,sc,qc,mc,rfl,_,_,_,_,_⟩:=hr.form;obtain ⟨aa,ac,ta2,tc2,rfl,_,_⟩:=hq;have e1:((z5g c).err != 0)=true:=by simp [hok]
 clear hr hok
 go_enter Tryz.func37,Tryz.ntmps37
 go_wp2_with fail;refine (hN.out _ z3).mono ?_;rintro en w1 ⟨rfl,hs1⟩;have hs2:=Sat.past (w0:=w0) z6 hs1;clear hs hs1;unfold ftV;go_wp2_with fail;go_returns;exact ⟨rfl,z3⟩
theorem zr6 (v u:Value) (c:Cf) (s:Sc) (rg:z6B c) (w0:World) (hr:z8I w0 v c) (hq:zqQ w0 u s) (hok:(z5g c).err=0) (he:scE s≠0) :
  Calls Tryz.prog 37 #[v,u] w0 (zp w0 (.tuple #[.pointer none,.int .i64 (scE s)]) emp):=by
 have hs:=Sat.start w0;have hN:=hid (fun (w:World) (h:Sat w0 w any)=>zhA v c rg (z4u (z4E rg hok)) w (hr.later h) hok);have hC:=hid (fun (w:World) (h:Sat w0 w any)=>zr7 u s w (hq.later h));obtain ⟨ta,la,sa,qa,ma,tc,lc,sc,qc,mc,rfl,_,_,_,_,_⟩:=hr.form;obtain ⟨aa,ac,ta2,tc2,rfl,_,_⟩:=hq;have e1:(scE s != 0)=true:=by simp [he]
 clear hr hok he;generalize scE s=z at *
 go_enter Tryz.func37,Tryz.ntmps37
 go_wp2_with fail;refine (hN.out _ z3).mono ?_;rintro en w1 ⟨v1,rfl,hp1⟩;obtain ⟨b,hp2⟩:=(hp1.perm (zz _).symm).ex_out;obtain ⟨y,hp3⟩:=hp2.ex_out;obtain ⟨e,hp4⟩:=(hp3.perm (zb _ _ _)).pur_out;subst e;have hs5:=Sat.over (w0:=w0) z6 hp4;clear hs hp1 hp2 hp3 hp4;unfold ftV;go_wp2_with fail;refine (hC.out _ z3).mono ?_;rintro en w2 ⟨rfl,hp⟩;have hs6:=Sat.past (w0:=w0) z6 hp;clear hp hs5;go_wp2_with fail;go_returns;exact ⟨rfl,z3⟩
theorem zsd (v u:Value) (c:Cf) (s:Sc) (rg:z6B c) (w0:World) (hr:z8I w0 v c) (hq:zqQ w0 u s) (hok:(z5g c).err=0) (he:scE s=0) :
  Calls Tryz.prog 37 #[v,u] w0 (Ret w0 fun v'=>ex fun g:Nat=>ex fun b:Nat=>ex fun y:Fx=>ex fun ta:Option Addr=>ex fun tc:Nat=>pur (v'=.tuple #[.pointer (some ⟨g,0,none⟩),.int .i64 0])*wdP g b y c ta tc (zqA c s)):=by
 have hs:=Sat.start w0;have hN:=hid (fun (w:World) (h:Sat w0 w any)=>zhA v c rg (z4u (z4E rg hok)) w (hr.later h) hok);have hC:=hid (fun (w:World) (h:Sat w0 w any)=>zr7 u s w (hq.later h));obtain ⟨ta,la,sa,qa,ma,tc,lc,sc,qc,mc,rfl,_,_,_,_,_⟩:=hr.form;obtain ⟨aa,ac,ta2,tc2,rfl,h1,h2⟩:=hq;obtain ⟨_,_,yz3,yz4,_⟩:=zqE he;have hA:=hid (fun (w:World) (P:HP) (h:Sat w0 w P)=>zrE (.slice aa s.ar.length ac) s.ar w0 w P h (h1.later h) (by omega));have hT:=hid (fun (w:World) (P:HP) (h:Sat w0 w P)=>zrF (.slice ta2 s.tape.length tc2) s.tape w0 w P h (h2.later h) (by omega));rw [he] at hC;clear hr hok he h1 h2
 go_enter Tryz.func37,Tryz.ntmps37
 go_wp2_with fail;refine (hN.out _ z3).mono ?_;rintro en w1 ⟨v1,rfl,hp1⟩;obtain ⟨b,hp2⟩:=(hp1.perm (zz _).symm).ex_out;obtain ⟨y,hp3⟩:=hp2.ex_out;obtain ⟨e,hp4⟩:=(hp3.perm (zb _ _ _)).pur_out;subst e;have hs5:=Sat.over (w0:=w0) z6 hp4;clear hs hp1 hp2 hp3 hp4;unfold ftV;go_wp2_with fail;refine (hC.out _ z3).mono ?_;rintro en w2 ⟨rfl,hp⟩;have hs6:=Sat.past (w0:=w0) z6 hp;clear hp hs5;go_wp2_with fail;refine z9 (w0:=w0) ?_;intro w3 hs7;clear hs6;refine zj (fun w'=>Sat w0 w' (pts (w0.heap.size+1) 0 [.slice aa s.ar.length ac,.slice ta2 s.tape.length tc2,.int .i64 s.steps]*any)) [(0,true),(1,true),(2,true),(4,true),(5,true),(7,true),(8,true),(3,false),(6,false),(9,true),(10,false),(11,true),(12,true)] (by kernel_rfl) (by kernel_rfl) (fun _ _ _ _ h=>h) zq ?_
 iterate 7 ((first | (refine zpI rfl (by rfl) ?_;apply Exists.intro;refine ⟨fun w hSw=>?_,?_⟩;focus ((try dsimp only at hSw);go_simp;try with_reducible rfl)) | refine zpH rfl (by rfl) ?_);simp only [Act.put,Go.zqA,Go.zqP,Go.zqQ])
 refine z29 rfl (by rfl) (fun K hK=>?_);go_wp2_with fail;refine (hA.out _ _ z6).mono ?_;rintro en w4 ⟨v4,rfl,hs8⟩;obtain ⟨na,nc,rfl⟩:=hs8.slice_form;clear hs7;go_wp2_with fail;refine ⟨zq,?_⟩;refine z29 rfl (by rfl) (fun K hK=>?_);go_wp2_with fail;refine (hT.out _ _ z6).mono ?_;rintro en w5 ⟨v5,rfl,hs9⟩;obtain ⟨ma2,mc2,rfl⟩:=hs9.slice_form;clear hs8;go_wp2_with fail;refine ⟨zq,?_⟩
 iterate 1 ((first | (refine zpI rfl (by rfl) ?_;apply Exists.intro;refine ⟨fun w hSw=>?_,?_⟩;focus ((try dsimp only at hSw);go_simp;try with_reducible rfl)) | refine zpH rfl (by rfl) ?_);simp only [Act.put,Go.zqA,Go.zqP,Go.zqQ])
 refine z29 rfl (by rfl) (fun K hK=>?_);go_wp2_with fail;refine ⟨zq,?_⟩
 iterate 2 ((first | (refine zpI rfl (by rfl) ?_;apply Exists.intro;refine ⟨fun w hSw=>?_,?_⟩;focus ((try dsimp only at hSw);go_simp;try with_reducible rfl)) | refine zpH rfl (by rfl) ?_);simp only [Act.put,Go.zqA,Go.zqP,Go.zqQ])
 refine zB ?_;go_wp2_with fail;go_returns;refine ⟨_,rfl,zrR (b:=b) (y:=y) (ta:=ma2) (tc:=mc2) (na:=na) (nc:=nc) ?_⟩;exact z3
def wdE (c:Cf) (s:Sc):Int:=if (z5g c).err≠0 then 3 else scE s
theorem zs1 {c:Cf} {s:Sc} (h:wdE c s=0):(z5g c).err=0∧scE s=0:=by
 unfold wdE at h;split at h
 ·cases h
 ·rename_i e;exact ⟨Classical.not_not.1 e,h⟩
def zs7 (c:Cf) (s:Sc) (v:Value):HP:=ex fun a:Value=>ex fun b:Value=>pur (v=.tuple #[a,b,.int .i64 0])*(z7 a (Wd.evs c s.steps.toNat (zqA c s))*stP b ((Wd.run c s.steps.toNat (zqA c s)).K.st c))
theorem zrT {c:Cf} {s:Sc} {w0 w:World} {F:HP} {a b:Value} (hs:Sat w0 w (z7 a (Wd.evs c s.steps.toNat (zqA c s))*(stP b ((Wd.run c s.steps.toNat (zqA c s)).K.st c)*F))):Sat w0 w (zs7 c s (.tuple #[a,b,.int .i64 0])*F) :=
 Sat.ex_in a (Sat.ex_in b ((Sat.pur_in rfl hs).perm (by ac_rfl)))
theorem zqU {c:Cf} {s:Sc} {w0 w:World} {F:HP} {v:Value} (hs:Sat w0 w (zs7 c s v*F)):∃ a b,v=.tuple #[a,b,.int .i64 0]∧Sat w0 w (z7 a (Wd.evs c s.steps.toNat (zqA c s))*(stP b ((Wd.run c s.steps.toNat (zqA c s)).K.st c)*F)):=by
 obtain ⟨a,h⟩:=hs.ex_out;obtain ⟨b,h⟩:=h.ex_out;obtain ⟨e,h⟩:=(h.perm (zb _ _ _)).pur_out;exact ⟨a,b,e,h.perm (zb _ _ _)⟩
theorem zse (v u:Value) (c:Cf) (s:Sc) (rg:z6B c) (w0:World) (hT:Tab w0) (hr:z8I w0 v c) (hq:zqQ w0 u s) (ht:∀ x∈s.tape,zG x) (he:wdE c s=0) :
  Calls Tryz.prog 35 #[v,u] w0 (Ret w0 fun v'=>zs7 c s v'):=by
 have hs:=Sat.start w0;obtain ⟨hok,hse⟩:=zs1 he;have hN:=hid (fun (w:World) (h:Sat w0 w any)=>zsd v u c s rg w (hr.later h) (hq.later h) hok hse);have hW:=zrI (z4E rg hok) hse ht;obtain ⟨z1,z2,yz3,yz4,_⟩:=zqE hse;have hX:=hid (fun (g b:Nat) (y:Fx) (ta:Option Addr) (tc:Nat) (w:World) (G:HP) (hs:Sat w0 w (wdP g b y c ta tc (zqA c s)*G))=>zs2 g b y c ta tc (zqA c s) hW yz4 s.steps (by omega) w0 w hT G hs);have hS:=hid (fun (g b:Nat) (y:Fx) (ta:Option Addr) (tc:Nat) (w:World) (G:HP) (hs:Sat w0 w (wdP g b y c ta tc (Wd.run c s.steps.toNat (zqA c s))*G))=>zrN g b y c ta tc _ (zrk s.steps.toNat hW) w0 w G hs);obtain ⟨ta,la,sa,qa,ma,tc,lc,sc,qc,mc,rfl,_,_,_,_,_⟩:=hr.form;obtain ⟨aa,ac,ta2,tc2,rfl,_,_⟩:=hq;clear hr he hok hse hT ht hW
 go_enter Tryz.func35,Tryz.ntmps35
 go_wp2_with fail;refine (hN.out _ z3).mono ?_;rintro en w1 ⟨v1,rfl,hp⟩;obtain ⟨g,b,y,ta3,tc3,rfl,hp2⟩:=zrJ (hp.perm (zz _).symm);have hs2:=Sat.over (w0:=w0) z6 hp2;clear hs hp hp2;go_wp2_with fail;refine (hX.out g b y ta3 tc3 _ _ Go.Sx.own).mono ?_;rintro en w2 ⟨v2,rfl,hs3⟩;obtain ⟨ea,ec,rfl⟩:=hs3.slice_form;clear hs2;go_wp2_with fail;refine (hS.out g b y ta3 tc3 _ _ Go.Sx.own).mono ?_;rintro en w3 ⟨v3,rfl,hs4⟩;obtain ⟨cl,rfl,hcl,hone,hs5⟩:=zr3 hs4;clear hs3 hs4;go_wp2_with (refine z09 (w0:=w0) (cells:=cl) (old:=zsP) rfl rfl rfl rfl Go.Sx.own (by rw [hcl];rfl) (by rw [hcl];kernel_rfl) hone ?_;intro w6 hs6);refine bodyPost_ret (zqv Tryz.results35 rfl hs6 Tryz.underlying51 rfl (by rw [hcl];kernel_rfl)) rfl ?_;refine ⟨_,rfl,(zrT (F:=emp) ?_).perm (zz _)⟩;show Sat w0 _ (z7 (.slice ea (Wd.evs c s.steps.toNat (zqA c s)).length ec) (Wd.evs c s.steps.toNat (zqA c s))*(stP (.agg cl.toArray) ((Wd.run c s.steps.toNat (zqA c s)).K.st c)*emp));exact z3
def wCf:Cf:=⟨[⟨0,1,0,0,0,[⟨21,1,0,0,0,2⟩,⟨17,0,0,0,0,0⟩]⟩],[⟨0,[]⟩,⟨0,[]⟩],0,[],[],[],0,2,4294967295,0,0,0⟩
def wSc:Sc:=⟨4,[⟨3,1⟩,⟨3,0⟩,⟨3,1⟩],[7]⟩
theorem zrW:(z5g wCf).err=0:=by kernel_rfl
theorem zs0:scE wSc=0:=by kernel_rfl
noncomputable def zrD:Wd:=Wd.run wCf 4 (zqA wCf wSc)
noncomputable def wL:List Ev:=Wd.evs wCf 4 (zqA wCf wSc)
theorem zrX:wL.length=7:=by kernel_rfl
theorem zsl:(wL.getD 2 ev0).v=7:=by kernel_rfl
theorem zsm:(wL.getD 3 ev0).k=1:=by kernel_rfl
theorem zsn:(wL.getD 4 ev0).a=1:=by kernel_rfl
theorem zso:(wL.getD 5 ev0).k=3:=by kernel_rfl
theorem zsp:(wL.getD 6 ev0).k=4:=by kernel_rfl
def bCf:Cf:=⟨[],[],0,[],[],[],0,0,0,65,0,0⟩
theorem zrP:(z5g bCf).err≠0:=by decide
def zCf:Cf:=⟨[],[],0,[],[],[],0,0,0,0,0,0⟩
theorem zs4:(z5g zCf).err=0:=by kernel_rfl
def nSc:Sc:=⟨-1,[],[]⟩
theorem zrA:scE nSc=1:=by kernel_rfl
def zrb (v:Value):HP:=ex fun cb:Nat=>ex fun tb:Nat=>ex fun lb:Nat=>pur (v=.agg #[.slice (some ⟨tb,0,none⟩) 1 1,.slice (some ⟨lb,0,none⟩) 2 2,.int .i64 0,.slice none 0 0,.slice none 0 0,.slice none 0 0,.int .i64 0,.int .u32 2,.int .u32 4294967295,.int .i64 0,.int .u64 0,.int .u64 0]) *
 (pts tb 0 [.int .i64 0,.int .i64 1,.int .i64 0,.int .i64 0,.int .i64 0,.slice (some ⟨cb,0,none⟩) 2 2]*(pts cb 0 [.int .i64 21,.int .i64 1,.int .i64 0,.int .i64 0,.int .i64 0,.int .u32 2,.int .i64 17,.int .i64 0,.int .i64 0,.int .i64 0,.int .i64 0,.int .u32 0]*pts lb 0 [.int .i64 0,.slice none 0 0,.int .i64 0,.slice none 0 0]))
theorem zrU {w0 w:World} {F:HP} {cb tb lb:Nat} (hs:Sat w0 w (pts tb 0 [.int .i64 0,.int .i64 1,.int .i64 0,.int .i64 0,.int .i64 0,.slice (some ⟨cb,0,none⟩) 2 2]*(pts cb 0 [.int .i64 21,.int .i64 1,.int .i64 0,.int .i64 0,.int .i64 0,.int .u32 2,.int .i64 17,.int .i64 0,.int .i64 0,.int .i64 0,.int .i64 0,.int .u32 0]*(pts lb 0 [.int .i64 0,.slice none 0 0,.int .i64 0,.slice none 0 0]*F)))) :
  Sat w0 w (zrb (.agg #[.slice (some ⟨tb,0,none⟩) 1 1,.slice (some ⟨lb,0,none⟩) 2 2,.int .i64 0,.slice none 0 0,.slice none 0 0,.slice none 0 0,.int .i64 0,.int .u32 2,.int .u32 4294967295,.int .i64 0,.int .u64 0,.int .u64 0])*F) :=
 Sat.ex_in cb (Sat.ex_in tb (Sat.ex_in lb ((Sat.pur_in rfl hs).perm (by ac_rfl))))
theorem zr0 (w:World):RdR (α:=Ins) w (.slice none 0 0) []:=z5D w
theorem zqg (w:World) (κ:IntKind):RdN κ w (.slice none 0 0) []:=⟨none,0,0,0,rfl,Nat.le_refl _,Nat.zero_le _,fun h=>absurd rfl h,fun j hj=>absurd hj (Nat.not_lt_zero _)⟩
theorem zrL {w0 w:World} {F:HP} {v:Value} (hs:Sat w0 w (zrb v*F)):(∃ tb lb,v=.agg #[.slice (some ⟨tb,0,none⟩) 1 1,.slice (some ⟨lb,0,none⟩) 2 2,.int .i64 0,.slice none 0 0,.slice none 0 0,.slice none 0 0,.int .i64 0,.int .u32 2,.int .u32 4294967295,.int .i64 0,.int .u64 0,.int .u64 0])∧z8I w v wCf:=by
 obtain ⟨cb,h1⟩:=hs.ex_out;obtain ⟨tb,h2⟩:=h1.ex_out;obtain ⟨lb,h3⟩:=h2.ex_out;obtain ⟨e,h⟩:=(h3.perm (zb _ _ _)).pur_out;clear hs h1 h2 h3;subst e;refine ⟨⟨tb,lb,rfl⟩,_,_,_,_,_,rfl,⟨[⟨0,1,0,0,0,some ⟨cb,0,none⟩,2,2⟩],?_,rfl,fun t ht=>?_⟩,⟨[⟨0,none,0,0⟩,⟨0,none,0,0⟩],?_,rfl,fun t ht=>?_⟩,zqg _ _,zqg _ _,zqg _ _⟩
 ·have h2:=h.perm (by ac_rfl:_=pts tb 0 [.int .i64 0,.int .i64 1,.int .i64 0,.int .i64 0,.int .i64 0,.slice (some ⟨cb,0,none⟩) 2 2]*(pts cb 0 [.int .i64 21,.int .i64 1,.int .i64 0,.int .i64 0,.int .i64 0,.int .u32 2,.int .i64 17,.int .i64 0,.int .i64 0,.int .i64 0,.int .i64 0,.int .u32 0]*(pts lb 0 [.int .i64 0,.slice none 0 0,.int .i64 0,.slice none 0 0]*F)));exact ⟨some ⟨tb,0,none⟩,1,tb,0,rfl,Nat.le_refl 1,(by unfold maxLen;omega),fun _=>rfl,fun j u hj=>h2.cell hj⟩
 ·obtain rfl:t=0:=by have:t<1:=ht;omega
  refine ⟨rfl,rfl,rfl,rfl,rfl,?_⟩;have h2:=h.perm (by ac_rfl:_=pts cb 0 [.int .i64 21,.int .i64 1,.int .i64 0,.int .i64 0,.int .i64 0,.int .u32 2,.int .i64 17,.int .i64 0,.int .i64 0,.int .i64 0,.int .i64 0,.int .u32 0]*(pts tb 0 [.int .i64 0,.int .i64 1,.int .i64 0,.int .i64 0,.int .i64 0,.slice (some ⟨cb,0,none⟩) 2 2]*(pts lb 0 [.int .i64 0,.slice none 0 0,.int .i64 0,.slice none 0 0]*F)));exact ⟨some ⟨cb,0,none⟩,2,cb,0,rfl,Nat.le_refl 2,(by unfold maxLen;omega),fun _=>rfl,fun j u hj=>h2.cell hj⟩
 ·have h2:=h.perm (by ac_rfl:_=pts lb 0 [.int .i64 0,.slice none 0 0,.int .i64 0,.slice none 0 0]*(pts cb 0 [.int .i64 21,.int .i64 1,.int .i64 0,.int .i64 0,.int .i64 0,.int .u32 2,.int .i64 17,.int .i64 0,.int .i64 0,.int .i64 0,.int .i64 0,.int .u32 0]*(pts tb 0 [.int .i64 0,.int .i64 1,.int .i64 0,.int .i64 0,.int .i64 0,.slice (some ⟨cb,0,none⟩) 2 2]*F)));exact ⟨some ⟨lb,0,none⟩,2,lb,0,rfl,Nat.le_refl 2,(by unfold maxLen;omega),fun _=>rfl,fun j u hj=>h2.cell hj⟩
 ·have:t=0∨t=1:=by have:t<2:=ht;omega
  rcases this with rfl | rfl
  ·exact ⟨rfl,zr0 _⟩
  ·exact ⟨rfl,zr0 _⟩
theorem zsq:z6B wCf:=by
 refine ⟨fun t ht i hi=>?_,fun t ht i hi=>?_,by decide,by decide,by decide,by decide⟩
 ·obtain rfl:t=0:=by have:t<1:=ht;omega
  have hi:i∈[(⟨21,1,0,0,0,2⟩:Ins),⟨17,0,0,0,0,0⟩]:=hi;simp only [List.mem_cons,List.mem_nil_iff,or_false] at hi
  rcases hi with rfl | rfl<;>exact ⟨by decide,by decide⟩
 ·have:t=0∨t=1:=by have:t<2:=ht;omega
  rcases this with rfl | rfl<;>cases hi
theorem zqS (w0:World):Calls Tryz.prog 111 #[] w0 (Ret w0 fun v=>zrb v):=by
 have hs:=Sat.start w0
 go_enter Tryz.func111,Tryz.ntmps111
 go_wp2_with fail;refine bodyPost_ret (z3p (cells:=[.slice (some ⟨w0.heap.size+1+1,0,none⟩) 1 1,.slice (some ⟨w0.heap.size+1+1+1,0,none⟩) 2 2,.int .i64 0,.slice none 0 0,.slice none 0 0,.slice none 0 0,.int .i64 0,.int .u32 2,.int .u32 4294967295,.int .i64 0,.int .u64 0,.int .u64 0]) Tryz.results111 rfl Go.Sx.own Tryz.underlying28 rfl (by kernel_rfl)) rfl ?_;refine ⟨_,rfl,?_⟩;refine (zrU (F:=emp) (cb:=w0.heap.size+1) (tb:=w0.heap.size+1+1) (lb:=w0.heap.size+1+1+1) ?_).perm (zz _);exact z3
theorem zrZ:∀ x∈wSc.tape,zG x:=fun x hx=>by
 have hx:x∈[(7:Int)]:=hx;simp only [List.mem_cons,List.mem_nil_iff,or_false] at hx;subst hx;exact ⟨by decide,by decide⟩
theorem zrY {w0 w:World} {ab tb:Nat} {F:HP} (hs:Sat w0 w (pts ab 0 [.int .i64 3,.int .i64 1,.int .i64 3,.int .i64 0,.int .i64 3,.int .i64 1]*(pts tb 0 [.int .u32 7]*F))) :
  zqQ w (.agg #[.slice (some ⟨ab,0,none⟩) 3 3,.slice (some ⟨tb,0,none⟩) 1 1,.int .i64 4]) wSc:=by
 refine ⟨some ⟨ab,0,none⟩,3,some ⟨tb,0,none⟩,1,rfl,?_,?_⟩
 ·exact ⟨some ⟨ab,0,none⟩,3,ab,0,rfl,Nat.le_refl 3,(by unfold maxLen;omega),fun _=>rfl,fun j u hj=>hs.cell hj⟩
 ·have h2:=hs.perm (by ac_rfl:_=pts tb 0 [.int .u32 7]*(pts ab 0 [.int .i64 3,.int .i64 1,.int .i64 3,.int .i64 0,.int .i64 3,.int .i64 1]*F));exact ⟨some ⟨tb,0,none⟩,1,tb,0,rfl,Nat.le_refl 1,(by unfold maxLen;omega),fun _=>rfl,fun j hj=>by
   obtain rfl:j=0:=by have:j<1:=hj;omega
   exact h2.cell (j:=0) rfl⟩
theorem zri (w:World) (ch:Int):z8I w (.agg #[.slice none 0 0,.slice none 0 0,.int .i64 0,.slice none 0 0,.slice none 0 0,.slice none 0 0,.int .i64 0,.int .u32 0,.int .u32 0,.int .i64 ch,.int .u64 0,.int .u64 0]) ⟨[],[],0,[],[],[],0,0,0,ch,0,0⟩ :=
 ⟨_,_,_,_,_,rfl,⟨[],z5D w,rfl,fun t ht=>absurd ht (Nat.not_lt_zero _)⟩,⟨[],z5D w,rfl,fun t ht=>absurd ht (Nat.not_lt_zero _)⟩,zqg _ _,zqg _ _,zqg _ _⟩
theorem zqZ (ch:Int):z6B ⟨[],[],0,[],[],[],0,0,0,ch,0,0⟩ :=
 ⟨fun t ht=>absurd ht (Nat.not_lt_zero _),fun t ht=>absurd ht (Nat.not_lt_zero _),by dsimp only;omega,by dsimp only;omega,by dsimp only;omega,by dsimp only;omega⟩
theorem zrK (w:World) (n:Int):zqQ w (.agg #[.slice none 0 0,.slice none 0 0,.int .i64 n]) ⟨n,[],[]⟩:=⟨none,0,none,0,rfl,z5D w,zqg _ _⟩
theorem zsb (sb tb ab:Nat) (w0:World) (hT:Tab w0) (v:Value) (w:World) (G:HP) (hs:Sat w0 w (zrb v*(pts sb 0 [.slice (some ⟨ab,0,none⟩) 3 3,.slice (some ⟨tb,0,none⟩) 1 1,.int .i64 4]*(pts tb 0 [.int .u32 7]*(pts ab 0 [.int .i64 3,.int .i64 1,.int .i64 3,.int .i64 0,.int .i64 3,.int .i64 1]*G))))) :
  Calls Tryz.prog 35 #[v,.agg #[.slice (some ⟨ab,0,none⟩) 3 3,.slice (some ⟨tb,0,none⟩) 1 1,.int .i64 4]] w (Ret w0 fun v'=>zs7 wCf wSc v'*(zrb v*(pts sb 0 [.slice (some ⟨ab,0,none⟩) 3 3,.slice (some ⟨tb,0,none⟩) 1 1,.int .i64 4]*(pts tb 0 [.int .u32 7]*(pts ab 0 [.int .i64 3,.int .i64 1,.int .i64 3,.int .i64 0,.int .i64 3,.int .i64 1]*G))))):=by
 refine (zse v _ wCf wSc zsq w (hT.later hs) (zrL hs).2 (zrY (ab:=ab) (tb:=tb) (F:=any) z3) zrZ (by unfold wdE;rw [zrW,zs0];rfl)).mono ?_;rintro en w' ⟨v',rfl,h⟩;exact ⟨_,rfl,Sat.over hs h⟩
theorem zr9 (w0:World) (hT:Tab w0):Calls Tryz.prog 33 #[] w0 (zp w0 (.bool true) emp):=by
 have hs:=Sat.start w0;have HT:=hid hT;clear hT
 go_enter Tryz.func33,Tryz.ntmps33
 go_upto_region 2 with fail
 refine z9 (w0:=w0) ?_;intro wa hsa;clear hs;generalize w0.heap.size+1+1=sb at *;generalize w0.heap.size+1=tb at *;generalize w0.heap.size=ab at *;have hSys:=hid (fun (w:World) (P:HP) (h:Sat w0 w P)=>(show Calls Tryz.prog 111 #[] w (Ret w0 fun v=>zrb v*P) from (zqS w).mono fun e w' ⟨v,he,h2⟩=>⟨v,he,Sat.over h h2⟩));have hRun:=hid (fun (v:Value) (w:World) (G:HP) (hs:Sat w0 w (zrb v*(pts sb 0 [.slice (some ⟨ab,0,none⟩) 3 3,.slice (some ⟨tb,0,none⟩) 1 1,.int .i64 4]*(pts tb 0 [.int .u32 7]*(pts ab 0 [.int .i64 3,.int .i64 1,.int .i64 3,.int .i64 0,.int .i64 3,.int .i64 1]*G)))))=>zsb sb tb ab w0 HT.out v w G hs)
 go_cut [2,3,4] (fun lv ev yzv wx=>∃ (ea:Option Addr) (ec eb:Nat) (cl:List Value),lv=.slice ea wL.length ec∧ev=.pointer (some ⟨eb,0,none⟩)∧yzv=.int .i64 0∧Hid (cl[0]?=some (.int .u64 4)∧cl[15]?=some (.int .u32 1))∧Sat w0 wx (pts eb 0 cl*(z7 (.slice ea wL.length ec) wL*(pts sb 0 [.slice (some ⟨ab,0,none⟩) 3 3,.slice (some ⟨tb,0,none⟩) 1 1,.int .i64 4]*(pts tb 0 [.int .u32 7]*(pts ab 0 [.int .i64 3,.int .i64 1,.int .i64 3,.int .i64 0,.int .i64 3,.int .i64 1]*any))))))
 case first =>
  refine z4l (fun w'=>Sat w0 w' (pts sb 0 [.slice (some ⟨ab,0,none⟩) 3 3,.slice (some ⟨tb,0,none⟩) 1 1,.int .i64 4]*any)) (.read 1 (.alt 0 (.alt 2 (.read 3 (.read 4 (.read 5 (.read 6 (.run 7 (.read 8 (.run 9 (.read 10 .done)))))))) 7 (.run 2 (.read 3 (.read 4 (.read 5 (.read 6 (.read 8 (.run 9 (.read 10 .done))))))))) 7 (.run 0 (.run 2 (.read 3 (.read 4 (.read 5 (.read 6 (.read 8 (.run 9 (.read 10 .done))))))))))) (by kernel_rfl) (by kernel_rfl) (fun _ _ _ _ h=>h) zq ?_
  iterate 1 ((first | (refine zpP rfl (by rfl) ?_;apply Exists.intro;refine ⟨fun w hSw=>?_,?_⟩;focus ((try dsimp only at hSw);go_simp;try with_reducible rfl)) | refine zpO rfl (by rfl) ?_);simp only [Act.put,Go.zqA,Go.zqP,Go.zqQ])
  refine z4a ?_ ?_
  ·refine z0d (by rfl) (by rfl) ?hx (hSys.out _ _ z6) ?_
   case hx=>go_simp
   rintro en w10 ⟨v10,rfl,hs10⟩;refine ⟨_,rfl,_,fun _ h=>h,zq,?_⟩;simp only [Act.put,Go.zqA,Go.zqP,Go.zqQ];refine z4a ?_ ?_
   ·refine z0d (by rfl) (by rfl) ?hx (hRun.out v10 _ (any) z3) ?_
    case hx=>go_simp
    rintro en w11 ⟨v11,rfl,hs11⟩;obtain ⟨ev,sv,rfl,hs12⟩:=zqU hs11;obtain ⟨ea,ec,rfl⟩:=hs12.slice_form;have hs13:Sat w0 w11 (stP sv (zrD.K.st wCf)*(z7 (.slice ea wL.length ec) wL*(zrb v10*(pts sb 0 [.slice (some ⟨ab,0,none⟩) 3 3,.slice (some ⟨tb,0,none⟩) 1 1,.int .i64 4]*(pts tb 0 [.int .u32 7]*(pts ab 0 [.int .i64 3,.int .i64 1,.int .i64 3,.int .i64 0,.int .i64 3,.int .i64 1]*(any))))))):=(show Sat w0 w11 (z7 (.slice ea wL.length ec) wL*(stP sv (zrD.K.st wCf)*(zrb v10*(pts sb 0 [.slice (some ⟨ab,0,none⟩) 3 3,.slice (some ⟨tb,0,none⟩) 1 1,.int .i64 4]*(pts tb 0 [.int .u32 7]*(pts ab 0 [.int .i64 3,.int .i64 1,.int .i64 3,.int .i64 0,.int .i64 3,.int .i64 1]*(any))))))) from hs12).perm (by ac_rfl);obtain ⟨cl,rfl,hcl,hone,⟨q0,_,q15,_,_⟩,hs14⟩:=zqw hs13;clear hs11 hs12 hs13;refine ⟨_,rfl,_,fun _ h=>h,zq,?_⟩;simp only [Act.put,Go.zqA,Go.zqP,Go.zqQ]
    iterate 4 ((first | (refine zpP rfl (by rfl) ?_;apply Exists.intro;refine ⟨fun w hSw=>?_,?_⟩;focus ((try dsimp only at hSw);go_simp;try with_reducible rfl)) | refine zpO rfl (by rfl) ?_);simp only [Act.put,Go.zqA,Go.zqP,Go.zqQ])
    refine z15 (w0:=w0) zsP 51 (by rfl) (by rfl) (by go_simp) ?_;intro eb wA hsA;refine ⟨_,fun _ h=>h,zq,?_⟩;simp only [Act.put,Go.zqA,Go.zqP,Go.zqQ]
    iterate 1 ((first | (refine zpP rfl (by rfl) ?_;apply Exists.intro;refine ⟨fun w hSw=>?_,?_⟩;focus ((try dsimp only at hSw);go_simp;try with_reducible rfl)) | refine zpO rfl (by rfl) ?_);simp only [Act.put,Go.zqA,Go.zqP,Go.zqQ])
    refine z17 (w0:=w0) (b:=eb) (o:=0) (cells:=cl) (old:=zsP) (by rfl) (by rfl) (by rfl) (by rfl) (by rfl) Go.Sx.own (by rw [hcl];rfl) (by rw [hcl];kernel_rfl) hone ?_;intro wB hsB;refine ⟨_,fun _ h=>h,zq,?_⟩;simp only [Act.put,Go.zqA,Go.zqP,Go.zqQ]
    iterate 1 ((first | (refine zpP rfl (by rfl) ?_;apply Exists.intro;refine ⟨fun w hSw=>?_,?_⟩;focus ((try dsimp only at hSw);go_simp;try with_reducible rfl)) | refine zpO rfl (by rfl) ?_);simp only [Act.put,Go.zqA,Go.zqP,Go.zqQ])
    refine z16 ?_;go_wp2_with fail
    go_meet
    exact ⟨ea,ec,eb,cl,rfl,rfl,rfl,hid ⟨by rw [q0];rfl,by rw [q15];rfl⟩,z3⟩
   ·refine z15 (w0:=w0) zsP 51 (by rfl) (by rfl) (by go_simp) ?_;intro eb wA hsA;refine ⟨_,fun _ h=>h,zq,?_⟩;simp only [Act.put,Go.zqA,Go.zqP,Go.zqQ];refine z0d (by rfl) (by rfl) ?hx (hRun.out v10 _ (pts eb 0 zsP*any) z3) ?_
    case hx=>go_simp
    rintro en w11 ⟨v11,rfl,hs11⟩;obtain ⟨ev,sv,rfl,hs12⟩:=zqU hs11;obtain ⟨ea,ec,rfl⟩:=hs12.slice_form;have hs13:Sat w0 w11 (stP sv (zrD.K.st wCf)*(z7 (.slice ea wL.length ec) wL*(zrb v10*(pts sb 0 [.slice (some ⟨ab,0,none⟩) 3 3,.slice (some ⟨tb,0,none⟩) 1 1,.int .i64 4]*(pts tb 0 [.int .u32 7]*(pts ab 0 [.int .i64 3,.int .i64 1,.int .i64 3,.int .i64 0,.int .i64 3,.int .i64 1]*(pts eb 0 zsP*any))))))):=(show Sat w0 w11 (z7 (.slice ea wL.length ec) wL*(stP sv (zrD.K.st wCf)*(zrb v10*(pts sb 0 [.slice (some ⟨ab,0,none⟩) 3 3,.slice (some ⟨tb,0,none⟩) 1 1,.int .i64 4]*(pts tb 0 [.int .u32 7]*(pts ab 0 [.int .i64 3,.int .i64 1,.int .i64 3,.int .i64 0,.int .i64 3,.int .i64 1]*(pts eb 0 zsP*any))))))) from hs12).perm (by ac_rfl);obtain ⟨cl,rfl,hcl,hone,⟨q0,_,q15,_,_⟩,hs14⟩:=zqw hs13;clear hs11 hs12 hs13;refine ⟨_,rfl,_,fun _ h=>h,zq,?_⟩;simp only [Act.put,Go.zqA,Go.zqP,Go.zqQ]
    iterate 5 ((first | (refine zpP rfl (by rfl) ?_;apply Exists.intro;refine ⟨fun w hSw=>?_,?_⟩;focus ((try dsimp only at hSw);go_simp;try with_reducible rfl)) | refine zpO rfl (by rfl) ?_);simp only [Act.put,Go.zqA,Go.zqP,Go.zqQ])
    refine z17 (w0:=w0) (b:=eb) (o:=0) (cells:=cl) (old:=zsP) (by rfl) (by rfl) (by rfl) (by rfl) (by rfl) Go.Sx.own (by rw [hcl];rfl) (by rw [hcl];kernel_rfl) hone ?_;intro wB hsB;refine ⟨_,fun _ h=>h,zq,?_⟩;simp only [Act.put,Go.zqA,Go.zqP,Go.zqQ]
    iterate 1 ((first | (refine zpP rfl (by rfl) ?_;apply Exists.intro;refine ⟨fun w hSw=>?_,?_⟩;focus ((try dsimp only at hSw);go_simp;try with_reducible rfl)) | refine zpO rfl (by rfl) ?_);simp only [Act.put,Go.zqA,Go.zqP,Go.zqQ])
    refine z16 ?_;go_wp2_with fail
    go_meet
    exact ⟨ea,ec,eb,cl,rfl,rfl,rfl,hid ⟨by rw [q0];rfl,by rw [q15];rfl⟩,z3⟩
  ·refine z15 (w0:=w0) zsP 51 (by rfl) (by rfl) (by go_simp) ?_;intro eb wA hsA;refine ⟨_,fun _ h=>h,zq,?_⟩;simp only [Act.put,Go.zqA,Go.zqP,Go.zqQ];refine z0d (by rfl) (by rfl) ?hx (hSys.out _ _ z6) ?_
   case hx=>go_simp
   rintro en w10 ⟨v10,rfl,hs10⟩;refine ⟨_,rfl,_,fun _ h=>h,zq,?_⟩;simp only [Act.put,Go.zqA,Go.zqP,Go.zqQ];refine z0d (by rfl) (by rfl) ?hx (hRun.out v10 _ (pts eb 0 zsP*any) z3) ?_
   case hx=>go_simp
   rintro en w11 ⟨v11,rfl,hs11⟩;obtain ⟨ev,sv,rfl,hs12⟩:=zqU hs11;obtain ⟨ea,ec,rfl⟩:=hs12.slice_form;have hs13:Sat w0 w11 (stP sv (zrD.K.st wCf)*(z7 (.slice ea wL.length ec) wL*(zrb v10*(pts sb 0 [.slice (some ⟨ab,0,none⟩) 3 3,.slice (some ⟨tb,0,none⟩) 1 1,.int .i64 4]*(pts tb 0 [.int .u32 7]*(pts ab 0 [.int .i64 3,.int .i64 1,.int .i64 3,.int .i64 0,.int .i64 3,.int .i64 1]*(pts eb 0 zsP*any))))))):=(show Sat w0 w11 (z7 (.slice ea wL.length ec) wL*(stP sv (zrD.K.st wCf)*(zrb v10*(pts sb 0 [.slice (some ⟨ab,0,none⟩) 3 3,.slice (some ⟨tb,0,none⟩) 1 1,.int .i64 4]*(pts tb 0 [.int .u32 7]*(pts ab 0 [.int .i64 3,.int .i64 1,.int .i64 3,.int .i64 0,.int .i64 3,.int .i64 1]*(pts eb 0 zsP*any))))))) from hs12).perm (by ac_rfl);obtain ⟨cl,rfl,hcl,hone,⟨q0,_,q15,_,_⟩,hs14⟩:=zqw hs13;clear hs11 hs12 hs13;refine ⟨_,rfl,_,fun _ h=>h,zq,?_⟩;simp only [Act.put,Go.zqA,Go.zqP,Go.zqQ]
   iterate 5 ((first | (refine zpP rfl (by rfl) ?_;apply Exists.intro;refine ⟨fun w hSw=>?_,?_⟩;focus ((try dsimp only at hSw);go_simp;try with_reducible rfl)) | refine zpO rfl (by rfl) ?_);simp only [Act.put,Go.zqA,Go.zqP,Go.zqQ])
   refine z17 (w0:=w0) (b:=eb) (o:=0) (cells:=cl) (old:=zsP) (by rfl) (by rfl) (by rfl) (by rfl) (by rfl) Go.Sx.own (by rw [hcl];rfl) (by rw [hcl];kernel_rfl) hone ?_;intro wB hsB;refine ⟨_,fun _ h=>h,zq,?_⟩;simp only [Act.put,Go.zqA,Go.zqP,Go.zqQ]
   iterate 1 ((first | (refine zpP rfl (by rfl) ?_;apply Exists.intro;refine ⟨fun w hSw=>?_,?_⟩;focus ((try dsimp only at hSw);go_simp;try with_reducible rfl)) | refine zpO rfl (by rfl) ?_);simp only [Act.put,Go.zqA,Go.zqP,Go.zqQ])
   refine z16 ?_;go_wp2_with fail
   go_meet
   exact ⟨ea,ec,eb,cl,rfl,rfl,rfl,hid ⟨by rw [q0];rfl,by rw [q15];rfl⟩,z3⟩
 case rest =>
  obtain ⟨ea,ec,eb,cl,rfl,rfl,rfl,hcl,hs1⟩:=hcut;clear hsa
  rename_i Kc hKc
  refine hKc _ _ ?_;have e7:wL.length=7:=zrX;obtain ⟨lb,lo,rfl⟩:=hs1.someR ea wL.length ec (E:=zjV) (l:=wL) (by rw [e7];decide);haveI k0:zC (pts eb 0 cl) eb 0 (.int .u64 4):=zrB hcl.out.1;haveI k15:zC (pts eb 0 cl) eb 15 (.int .u32 1):=zrB hcl.out.2;haveI:Lt 2 wL.length:=⟨by rw [e7];decide⟩;haveI:Lt 3 wL.length:=⟨by rw [e7];decide⟩;haveI:Lt 4 wL.length:=⟨by rw [e7];decide⟩;haveI:Lt 5 wL.length:=⟨by rw [e7];decide⟩;haveI:Lt 6 wL.length:=⟨by rw [e7];decide⟩;haveI x2:z1v (E:=zjV) (wL.getD 2 ev0) 5 (.int .u32 7):=⟨by show some (Value.int .u32 ((wL.getD 2 ev0).v:Int))=_;rw [zsl];rfl⟩;haveI x3:z1v (E:=zjV) (wL.getD 3 ev0) 0 (.int .i64 1):=⟨by show some (Value.int .i64 (wL.getD 3 ev0).k)=_;rw [zsm]⟩;haveI x4:z1v (E:=zjV) (wL.getD 4 ev0) 3 (.int .u32 1):=⟨by show some (Value.int .u32 ((wL.getD 4 ev0).a:Int))=_;rw [zsn];rfl⟩;haveI x5:z1v (E:=zjV) (wL.getD 5 ev0) 0 (.int .i64 3):=⟨by show some (Value.int .i64 (wL.getD 5 ev0).k)=_;rw [zso]⟩;haveI x6:z1v (E:=zjV) (wL.getD 6 ev0) 0 (.int .i64 4):=⟨by show some (Value.int .i64 (wL.getD 6 ev0).k)=_;rw [zsp]⟩;haveI c2:zC (z7 (.slice (some ⟨lb,lo,none⟩) wL.length ec) wL) lb (lo+12+5) (.int .u32 7):=(inferInstance:zC (z7 (.slice (some ⟨lb,lo,none⟩) wL.length ec) wL) lb (lo+2*6+5) (.int .u32 7));haveI c3:zC (z7 (.slice (some ⟨lb,lo,none⟩) wL.length ec) wL) lb (lo+18) (.int .i64 1):=(inferInstance:zC (z7 (.slice (some ⟨lb,lo,none⟩) wL.length ec) wL) lb (lo+3*6) (.int .i64 1));haveI c4:zC (z7 (.slice (some ⟨lb,lo,none⟩) wL.length ec) wL) lb (lo+24+3) (.int .u32 1):=(inferInstance:zC (z7 (.slice (some ⟨lb,lo,none⟩) wL.length ec) wL) lb (lo+4*6+3) (.int .u32 1));haveI c5:zC (z7 (.slice (some ⟨lb,lo,none⟩) wL.length ec) wL) lb (lo+30) (.int .i64 3):=(inferInstance:zC (z7 (.slice (some ⟨lb,lo,none⟩) wL.length ec) wL) lb (lo+5*6) (.int .i64 3));haveI c6:zC (z7 (.slice (some ⟨lb,lo,none⟩) wL.length ec) wL) lb (lo+36) (.int .i64 4):=(inferInstance:zC (z7 (.slice (some ⟨lb,lo,none⟩) wL.length ec) wL) lb (lo+6*6) (.int .i64 4));generalize wL=L at *;go_wp2_with fail;refine (zqO _ _ bCf wSc (zqZ 65) _ (zri _ 65) (zrY (ab:=ab) (tb:=tb) (F:=any) z3) zrP).mono ?_;rintro en w2 ⟨rfl,hp⟩;have hs2:=Sat.past (w0:=w0) z6 hp;clear hp hs1;go_wp2_with fail;refine (zr6 _ _ zCf nSc (zqZ 0) _ (zri _ 0) (zrK _ (-1)) zs4 (by rw [zrA];decide)).mono ?_;rw [zrA];rintro en w3 ⟨rfl,hp⟩;have hs3:=Sat.past (w0:=w0) z6 hp;clear hp hs2;go_wp2_with fail;go_ret;exact ⟨rfl,z3⟩
end Go.Proofs.YtlbjjoeocdimfaaGreatDoor
namespace Go.Proofs.YtlbjjoeocdimfaaGreatDoor
open Go.ChangeShapes Go.WideShapes Go.ChangeAt Go.RowKit Go.Sx
abbrev z4M : List (String × DataW Unit) := [("math/bits.deBruijn32tab", Rows.laid_math_bits_deBruijn32tab)]
theorem zo8 : Tryz.prog.globalNamed "math/bits.deBruijn32tab" = some 0 := by kernel_rfl
theorem zoc : (Tryz.prog.globals[0]?).map (·.type) = some 275:=by kernel_rfl
theorem zo6:(Rows.laid_math_bits_deBruijn32tab:DataW Unit)=.agg (Lib.deBruijn32tab.map fun k:Nat=>DataW.lit (.int .u8 (k:Int))):=by kernel_rfl
theorem z6k (os:Os) (args:Array Value):laidMetH Tryz.prog z4M ((World.doorLaid Tryz.prog 400 os).forCall (fun _ _=>0) ⟨#[],args,[]⟩).memory :=
 laidMetH_of_parts (laidMet_of_run' 8 (by kernel_rfl) (by kernel_rfl)) (by kernel_rfl)
theorem z3h {W:World} (h:laidMetH Tryz.prog z4M W):Tab W:=by
 rw [MakeChecks.laidMetH_plain _ _ _ (by kernel_rfl)] at h;obtain ⟨ps,⟨g0,t0,cs0,f0,p0,q0,hg0,ht0,hv0,hd0,_,_⟩,_,_⟩:=h;obtain rfl:=Option.some.inj (zo8.symm.trans hg0);obtain rfl:=Option.some.inj (zoc.symm.trans ht0);obtain ⟨xs,m1,rfl,hx1,hlen,hn,hel⟩:=DataW.trod_array Tryz.underlying275 hd0;have c8:Tryz.prog.cellsOf 5=1:=by kernel_rfl
 rw [zo6] at hx1;simp only [Prod.mk.injEq,DataW.agg.injEq] at hx1;intro j hj;have hj32:j<32:=hj;have hxj:j<xs.length:=by omega
 have h0:=hel j hj32;rw [c8,Nat.mul_one,List.getElem?_eq_getElem hxj] at h0;obtain ⟨k,e1,e2,_⟩:=DataW.trod_int Tryz.underlying5 h0;have e3 : (xs.map (·.1))[j]? = (Lib.deBruijn32tab.map fun k : Nat=>(DataW.lit (.int .u8 (k : Int)) : DataW Unit))[j]?:=by rw [hx1.1]
 rw [List.getElem?_map,List.getElem?_map,List.getElem?_eq_getElem hxj,e2,List.getElem?_eq_getElem hj] at e3;simp only [Option.map_some,Option.some.injEq,DataW.lit.injEq,Lit.int.injEq,true_and] at e3;have hcell:=World.var?_cell hg0 hv0 j;have hl:j<cs0.toList.length:=by
  rcases Nat.lt_or_ge j cs0.toList.length with a | a
  ·exact a
  ·rw [List.drop_eq_nil_of_le a] at e1;simp at e1
 rw [List.drop_eq_getElem_cons hl] at e1;have e4:cs0.toList[j]=.int .u8 k:=by simpa using e1
 have hl2:j<cs0.size:=by simpa using hl
 rw [hcell,Array.getElem?_eq_getElem hl2];rw [show cs0[j]=.int .u8 k by simpa using e4,e3];simp [List.getD,hj]
end Go.Proofs.YtlbjjoeocdimfaaGreatDoor
