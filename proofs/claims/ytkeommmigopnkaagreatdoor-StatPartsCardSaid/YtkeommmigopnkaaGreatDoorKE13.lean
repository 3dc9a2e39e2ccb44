/-
  Parts of the proof: Fine RefK RefL AuditQ AuditU AuditV5 AuditV AuditW AuditR.
-/
import Derived.Test.YtkeommmigopnkaaGreatDoorKE6
import Derived.Test.YtkeommmigopnkaaGreatDoorKE7
import Derived.Test.YtkeommmigopnkaaGreatDoorKE12
set_option linter.unusedVariables false
set_option linter.unusedSimpArgs false
set_option maxHeartbeats 32000000
set_option maxRecDepth 100000
namespace Go.Proofs.YtkeommmigopnkaaGreatDoor
open Go.RowKit Go.Sx Go.Dl Go.Lk Go.Rq Go.Au
def CodeFine (l:List Ins) (isr:Bool):Prop:=l.length≤256∧∀ k,k<l.length→checkE (insAt l k) l.length isr=0
def TaskFine (t:Tc):Prop:=inR t.lev 0 31=true∧inR t.off 1 1073741824=true∧inR t.per 0 1073741824=true∧inR t.dl 0 1073741824=true∧inR t.mem 0 256=true∧CodeFine t.code false
def LineFine (l:Lc):Prop:=inR l.mem 0 256=true∧CodeFine l.code true
def RowFine (l:List Int) (lo hi:Int):Prop:=l.length≤32∧∀ k,k<l.length→inR (lg l k) lo hi=true
structure Fine (c:Cf):Prop where
 tn:c.ts.length≤64
 tk:∀ t,t<c.ts.length→TaskFine (tcg c t)
 ln:c.ls.length≤16
 lk:∀ n,n<c.ls.length→LineFine (lcg c n)
 mu:inR c.mutexes 0 32=true
 se:RowFine c.sems 0 255
 qu:RowFine c.queues 1 64
 tm:RowFine c.timers 0 (c.sems.length-1)
 tb:inR c.table 0 64=true
 ms:maskOk c=true
 ch:inR c.charge 0 64=true
theorem codeF_fineI (l:List Ins) (isr:Bool) (p i a:Int):(codeF l isr p i a).err=0↔CodeFine l isr:=by
 constructor
 ·intro h;obtain ⟨h1,h2⟩:=codeF_ok h;refine ⟨h1,fun k hk=>h2 _ ?_⟩;unfold insAt;simp [List.getD,hk]
 ·rintro ⟨h1,h2⟩;unfold codeF;rw [if_neg (by omega),firstOf_all (fun k hk=>by unfold codeBad;simp [h2 k hk])]
theorem taskF_fine (t:Tc) (i:Int):(taskF t i).err=0↔TaskFine t:=by
 unfold taskF TaskFine;rw [← codeF_fineI t.code false 1 i 6]
 constructor
 ·intro h
  split at h
  ·exact absurd h (by simp)
  split at h
  ·exact absurd h (by simp)
  split at h
  ·exact absurd h (by simp)
  split at h
  ·exact absurd h (by simp)
  split at h
  ·exact absurd h (by simp)
  rename_i h1 h2 h3 h4 h5
  exact ⟨Classical.not_not.1 h1,Classical.not_not.1 h2,Classical.not_not.1 h3,Classical.not_not.1 h4,Classical.not_not.1 h5,h⟩
 ·rintro ⟨h1,h2,h3,h4,h5,h6⟩;rw [if_neg (not_not_intro h1),if_neg (not_not_intro h2),if_neg (not_not_intro h3),if_neg (not_not_intro h4),if_neg (not_not_intro h5)];exact h6
theorem lineF_fine (l:Lc) (i:Int):(lineF l i).err=0↔LineFine l:=by
 unfold lineF LineFine;rw [← codeF_fineI l.code true 2 i 2]
 constructor
 ·intro h
  split at h
  ·exact absurd h (by simp)
  rename_i h1
  exact ⟨Classical.not_not.1 h1,h⟩
 ·rintro ⟨h1,h2⟩;rw [if_neg (not_not_intro h1)];exact h2
theorem rowF_fineI (l:List Int) (p lo hi:Int):(rowF l p lo hi).err=0↔RowFine l lo hi:=by
 constructor
 ·intro h;obtain ⟨h1,h2⟩:=rowF_ok h;refine ⟨h1,fun k hk=>?_⟩;have:=h2 (lg l k) (by unfold lg;simp [List.getD,hk]);exact decide_eq_true this
 ·rintro ⟨h1,h2⟩;unfold rowF;rw [if_neg (by omega),firstOf_all (fun k hk=>by unfold rowBad;simp [h2 k hk])]
theorem numF_fine (z:Bool) (p:Int):(numF z p).err=0↔z=true:=by
 constructor
 ·exact numF_ok
 ·rintro rfl;rfl
theorem thenF_fine (a b:Ft):(thenF a b).err=0↔a.err=0∧b.err=0:=by
 constructor
 ·exact thenF_err
 ·rintro ⟨h1,h2⟩;unfold thenF;rw [if_pos h1];exact h2
theorem programsF_fine (c:Cf):(programsF c).err=0↔c.ts.length≤64∧(∀ t,t<c.ts.length→TaskFine (tcg c t))∧c.ls.length≤16∧∀ n,n<c.ls.length→LineFine (lcg c n):=by
 constructor
 ·intro h;obtain ⟨h1,h2,h0⟩:=programsF_ok h;refine ⟨h1,fun t ht=>(taskF_fine _ _).1 (h2 t ht),(linesF_ok h0).1,fun n hn=>?_⟩;unfold linesF at h0;have l1:=(linesF_ok (c:=c) (by unfold linesF;exact h0)).1;rw [if_neg (by omega)] at h0
  cases f:firstOf (lineBad c) c.ls.length with
  | some k =>
   rw [f] at h0;have:=find_range_some (f:(List.range c.ls.length).find? (lineBad c)=some k);exact absurd h0 (of_decide_eq_true this.2.1)
  | none=>exact (lineF_fine _ _).1 (Classical.not_not.1 (of_decide_eq_false (firstOf_none f n hn)))
 ·rintro ⟨h1,h2,h3,h4⟩;unfold programsF;rw [if_neg (by omega),firstOf_all (fun t ht=>by unfold taskBad;simp [(taskF_fine (tcg c t) t).2 (h2 t ht)])];show (linesF c).err=0;unfold linesF;rw [if_neg (by omega),firstOf_all (fun t ht=>by unfold lineBad;simp [(lineF_fine (lcg c t) t).2 (h4 t ht)])]
theorem fine_iff (c:Cf):(confF c).err=0↔Fine c:=by
 unfold confF;simp only [thenF_fine,programsF_fine,numF_fine,rowF_fineI]
 constructor
 ·rintro ⟨⟨⟨⟨⟨⟨⟨⟨h1,h2,h3,h4⟩,h5⟩,h6⟩,h7⟩,h8⟩,h9⟩,h10⟩,h11⟩;exact ⟨h1,h2,h3,h4,h5,h6,h7,h8,h9,h10,h11⟩
 ·rintro ⟨h1,h2,h3,h4,h5,h6,h7,h8,h9,h10,h11⟩;exact ⟨⟨⟨⟨⟨⟨⟨⟨h1,h2,h3,h4⟩,h5⟩,h6⟩,h7⟩,h8⟩,h9⟩,h10⟩,h11⟩
theorem refCheckI (i:Ins) (n:Nat) (hn:n≤256) (isr:Bool) (z:Int) (hz:checkE i n isr=z) (hk:rngW i.k) (w0 w:World) (P:HP) (hs:Sat w0 w P) :
  Calls Tryz.prog 61 #[insV i,.int .i64 n,.bool isr] w (RetV w0 (.int .i64 z) P):=by
 have hF:=hid (fun (e:Int) (he:formE i=e) (wx:World) (Q:HP) (h:Sat w0 wx Q)=>refForm i e he w0 wx Q h);obtain ⟨op,a,b,c,d,k⟩:=i;have hk0:0≤k:=hk.1;have hk1:k<4294967296:=hk.2;have u1:IntKind.u64.wrap k=k:=by rw [IntKind.wrap_u64];omega
 have u2:IntKind.u64.wrap (n:Int)=n:=by rw [IntKind.wrap_u64];omega
 unfold checkE at hz
 by_cases h1:formE ⟨op,a,b,c,d,k⟩=0
 ·rw [if_neg (Classical.not_not.2 h1)] at hz;have H1:=hid h1;have hop:1≤op∧op≤38:=Classical.byContradiction fun h=>by
   unfold formE at h1;rw [if_pos (by unfold isOp;simp;omega)] at h1;exact absurd h1 (by decide)
  have hop1:=hop.1;have hop2:=hop.2;clear hop;unfold may at hz;have Hz:=hid hz;clear h1 hz hk
  cases isr
  all_goals
   go_enter Tryz.func61,Tryz.ntmps61
   go_wp2_with fail;refine (hF.out 0 H1.out _ _ own_it).mono ?_;rintro en w1 ⟨rfl,hs1⟩;clear hs;go_wp2
   all_goals
    go_ret;refine ⟨?_,own_left⟩;rw [← Hz.out]
    first | (simp_all;done) | (simp_all;omega) | (congr 2; (repeat' split)<;>simp_all<;>omega)
 ·rw [if_pos h1] at hz;have e1:(z != 0)=true:=by rw [← hz];simpa using h1
  have Hz:=hid hz;clear h1 hz
  go_enter Tryz.func61,Tryz.ntmps61
  go_wp2_with fail;refine (hF.out z Hz.out _ _ own_it).mono ?_;rintro en w1 ⟨rfl,hs1⟩;clear hs;go_wp2_with fail;go_ret;exact ⟨rfl,own_left⟩
theorem refOut (n lo hi:Int) (z:Bool) (hz:inR n lo hi=z) (w:World):Calls Tryz.prog 37 #[.int .i64 n,.int .i64 lo,.int .i64 hi] w fun e w'=>e=.returned (.bool (!z))∧w=w':=by
 unfold inR at hz;have Hz:=hid hz;clear hz
 go_enter Tryz.func37,Tryz.ntmps37
 go_wp2
 all_goals
  go_ret;exact ⟨retB (by rw [← Hz.out,Bool.eq_iff_iff];simp;try omega),rfl⟩
theorem refFault (e p i a:Int) (w0 w:World) (P:HP) (hs:Sat w0 w P):Calls Tryz.prog 36 #[.int .i64 e,.int .i64 p,.int .i64 i,.int .i64 a] w (RetV w0 (ftV ⟨e,p,i,a⟩) P):=by
 go_enter Tryz.func36,Tryz.ntmps36
 go_wp2_with fail;go_returns;exact ⟨rfl,own_left⟩
def RetC (w0:World) (P:HP) (Q:Prop) (e:Ending) (w':World):Prop:=∃ z k:Int,e=.returned (.tuple #[.int .i64 z,.int .i64 k])∧Sat w0 w' P∧(z=0↔Q)
def RetF (w0:World) (P:HP) (Q:Prop) (e:Ending) (w':World):Prop:=∃ f:Ft,e=.returned (ftV f)∧Sat w0 w' P∧(f.err=0↔Q)
theorem RetF.no {w0 w':World} {P:HP} {Q:Prop} (f:Ft) (hs:Sat w0 w' P) (h:¬ f.err=0) (hq:¬ Q):RetF w0 P Q (.returned (ftV f)) w':=⟨f,rfl,hs,fun e=>absurd e h,fun e=>absurd e hq⟩
theorem refCode (v:Value) (l:List Ins) (isr:Bool) (hk:∀ i∈l,rngW i.k) (w0:World) (hr:RdR w0 v l) :
  Calls Tryz.prog 38 #[v,.bool isr] w0 (RetC w0 emp (CodeFine l isr)):=by
 have hs:=Sat.start w0;obtain ⟨a,cap,g,off,rfl,_,hcm,ha,hc⟩:=hr
 by_cases hl:256<l.length
 ·have d1:decide (256<l.length)=true:=decide_eq_true hl;have d2:decide ((256:Int)<(l.length:Int))=true:=by simp;omega
  have hx:=hid (show ¬ CodeFine l isr from fun h=>by have:=h.1;omega);clear ha hc
  go_enter Tryz.func38,Tryz.ntmps38
  go_wp2_with fail;go_ret2;exact ⟨4,0,rfl,own_left,fun h=>absurd h (by decide),fun h=>absurd h hx.out⟩
 ·have d1:decide (256<l.length)=false:=decide_eq_false hl;have d2:decide ((256:Int)<(l.length:Int))=false:=by simp;omega
  have Ha:=hid ha;have Hc:=hid hc;have Hk:=hid hk;clear ha hc hk
  go_enter Tryz.func38,Tryz.ntmps38
  go_wp2_with fail;refine wp_gen (w0:=w0) ?_;intro ww hsw;clear hs
  go_loopw [6] (fun i wr=>∃ k:Nat,k≤l.length∧i=.int .i64 k∧(∀ j,j<k→checkE (insAt l j) l.length isr=0)∧Sat w0 wr any) (fun i _=>l.length-(intOf i).toNat)
  case atStart=>exact ⟨0,Nat.zero_le _,rfl,fun j hj=>absurd hj (by omega),own_left⟩
  case round =>
   obtain ⟨k,hk,rfl,hb,hsr⟩:=hrel;clear hsw;have Hb:=hid hb;clear hb
   by_cases hlt:k<l.length
   ·have d3:decide (k<l.length)=true:=decide_eq_true hlt;have i3:(k:Int)<(l.length:Int):=by omega
    obtain rfl:=Ha.out (by intro h;simp [h] at hlt);obtain ⟨i,hi⟩:∃ i,i=insAt l k:=⟨_,rfl⟩;have hgd:l.getD k ins0=i:=by rw [hi];rfl
    have hik:rngW i.k:=Hk.out i (by rw [hi];exact insAt_mem (by omega) (by omega));have oc:∀ c u,c<6→(encIns.enc i)[c]?=some u→w0.cell? ⟨g,off+k*6+c,none⟩=some u:=fun c u hc6 he=>oldArr_at Hc.out hlt hc6 (by show (encIns.enc (l.getD k ins0))[c]?=some u;rw [hgd];exact he);haveI o0:Old w0 g (off+k*6) (.int .i64 i.op):=⟨oc 0 _ (by decide) rfl⟩;haveI o1:Old w0 g (off+k*6+1) (.int .i64 i.a):=⟨oc 1 _ (by decide) rfl⟩;haveI o2:Old w0 g (off+k*6+2) (.int .i64 i.b):=⟨oc 2 _ (by decide) rfl⟩;haveI o3:Old w0 g (off+k*6+3) (.int .i64 i.c):=⟨oc 3 _ (by decide) rfl⟩;haveI o4:Old w0 g (off+k*6+4) (.int .i64 i.d):=⟨oc 4 _ (by decide) rfl⟩;haveI o5:Old w0 g (off+k*6+5) (.int .u32 i.k):=⟨oc 5 _ (by decide) rfl⟩;obtain ⟨z,hz⟩:∃ z,z=checkE i l.length isr:=⟨_,rfl⟩;have hI:=hid (fun (w:World) (P:HP) (hs:Sat w0 w P)=>refCheckI i l.length (by omega) isr z hz.symm hik w0 w P hs);rw [hi] at hz;have Hz:=hid hz;clear oc hgd hi hik hz
    by_cases hz0:z=0
    ·subst hz0;have hb2:=hid (show ∀ j,j<k+1→checkE (insAt l j) l.length isr=0 from fun j hj=>by
      rcases Nat.lt_or_ge j k with h | h
      ·exact Hb.out j h
      ·obtain rfl:j=k:=by omega
       exact Hz.out.symm)
     go_wp2_with fail;refine (hI.out _ any own_left).mono ?_;rintro en w1 ⟨rfl,hs1⟩;go_wp2_with fail;go_roundw
     case rel=>exact ⟨k+1,by omega,by go_num,hb2.out,own_left⟩
     case measure=>simp [intOf];omega
    ·have z1:(z != 0)=true:=by simp [hz0]
     have hx:=hid (show ¬ CodeFine l isr from fun h=>hz0 (Hz.out.trans (h.2 k hlt)));have Hz0:=hid hz0;clear hz0;go_wp2_with fail;refine (hI.out _ any own_left).mono ?_;rintro en w1 ⟨rfl,hs1⟩;go_wp2_with fail;go_ret2;exact ⟨_,_,rfl,own_left,fun h=>absurd h Hz0.out,fun h=>absurd h hx.out⟩
   ·have hkl:k=l.length:=by omega
    subst hkl;have d3:decide (l.length<l.length)=false:=by simp
    have hx:=hid (show CodeFine l isr from ⟨by omega,Hb.out⟩);clear hlt;go_wp2_with fail
    all_goals
     go_ret2;exact ⟨0,0,rfl,own_left,fun _=>hx.out,fun _=>rfl⟩
theorem refRow (v:Value) (l:List Int) (p lo hi:Int) (w0:World) (hr:RdN .i64 w0 v l) :
  Calls Tryz.prog 39 #[v,.int .i64 p,.int .i64 lo,.int .i64 hi] w0 (RetF w0 emp (RowFine l lo hi)):=by
 have hs:=Sat.start w0;obtain ⟨a,cap,gb,off,rfl,_,_,ha,hc⟩:=hr
 by_cases hl:32<l.length
 ·have d1:decide (32<l.length)=true:=decide_eq_true hl;have d2:decide ((32:Int)<(l.length:Int))=true:=by simp;omega
  have hx:=hid (show ¬ RowFine l lo hi from fun h=>by have:=h.1;omega);clear ha hc
  go_enter Tryz.func39,Tryz.ntmps39
  go_wp2_with fail;refine (refFault _ _ _ _ w0 _ _ own_it).mono ?_;rintro en w1 ⟨rfl,hs1⟩;unfold ftV;go_wp2_with fail;go_returns;exact RetF.no ⟨4,p,0,0⟩ own_left (show ¬ (4:Int)=0 by decide) hx.out
 ·have d1:decide (32<l.length)=false:=decide_eq_false hl;have d2:decide ((32:Int)<(l.length:Int))=false:=by simp;omega
  have hl9:l.length≤32:=by omega
  have Ha:=hid ha;have Hc:=hid hc;clear ha hc
  go_enter Tryz.func39,Tryz.ntmps39
  go_wp2_with fail;refine wp_gen (w0:=w0) ?_;intro ww hsw;clear hs hl
  go_loopw [9] (fun i wr=>∃ k:Nat,k≤l.length∧i=.int .i64 k∧(∀ j,j<k→inR (lg l j) lo hi=true)∧Sat w0 wr (pts w0.heap.size 0 [.int .i64 0,.int .i64 0,.int .i64 0,.int .i64 0]*any)) (fun i _=>l.length-(intOf i).toNat)
  case atStart=>exact ⟨0,Nat.zero_le _,rfl,fun j hj=>absurd hj (by omega),own_left⟩
  case round =>
   obtain ⟨k,hk,rfl,hb,hsr⟩:=hrel;clear hsw;have Hb:=hid hb;clear hb
   by_cases hlt:k<l.length
   ·have d3:decide (k<l.length)=true:=decide_eq_true hlt;have i3:(k:Int)<(l.length:Int):=by omega
    obtain rfl:=Ha.out (by intro h;simp [h] at hlt);haveI o1:Old w0 gb (off+k) (.int .i64 (lg l k)):=⟨Hc.out k hlt⟩
    cases g:inR (lg l k) lo hi
    ·have hx:=hid (show ¬ RowFine l lo hi from fun h=>by have:=h.2 k hlt;rw [g] at this;cases this);have hO:=hid (fun w=>refOut (lg l k) lo hi false g w);clear g;go_wp2_with fail;refine (hO.out _).mono ?_;rintro en w1 ⟨rfl,rfl⟩;go_wp2_with fail;refine (refFault _ _ _ _ w0 _ _ own_it).mono ?_;rintro en w1 ⟨rfl,hs1⟩;unfold ftV;go_wp2_with fail;go_returns;exact RetF.no ⟨5,p,k,1⟩ own_left (show ¬ (5:Int)=0 by decide) hx.out
    ·have hb2:=hid (show ∀ j,j<k+1→inR (lg l j) lo hi=true from fun j hj=>by
      rcases Nat.lt_or_ge j k with h | h
      ·exact Hb.out j h
      ·obtain rfl:j=k:=by omega
       exact g)
     have hO:=hid (fun w=>refOut (lg l k) lo hi true g w);clear g;go_wp2_with fail;refine (hO.out _).mono ?_;rintro en w1 ⟨rfl,rfl⟩;go_wp2_with fail;go_roundw
     case rel=>exact ⟨k+1,by omega,by go_num,hb2.out,own_left⟩
     case measure=>simp [intOf];omega
   ·have hkl:k=l.length:=by omega
    subst hkl;have d3:decide (l.length<l.length)=false:=by simp
    have hx:=hid (show RowFine l lo hi from ⟨hl9,Hb.out⟩);clear hlt;go_wp2_with fail
    all_goals
     go_returns;exact ⟨ft0,rfl,own_left,fun _=>hx.out,fun _=>rfl⟩
theorem refConf (v:Value) (c:Cf) (rg:CfRng c) (w0:World) (hr:RdCf w0 v c) :
  Calls Tryz.prog 21 #[v] w0 (RetF w0 emp (Fine c)):=by
 have hs:=Sat.start w0;obtain ⟨tv,lv,sv,qv,mv,rfl,⟨T,hT,hTn,hTi⟩,⟨L,hL,hLn,hLi⟩,hS,hQ,hM⟩:=hr.out;have hRs:=hid (fun (w:World) (h:Sat w0 w any)=>refRow sv c.sems 4 0 255 w (hS.later h));have hRq:=hid (fun (w:World) (h:Sat w0 w any)=>refRow qv c.queues 5 1 64 w (hQ.later h));have hRt:=hid (fun (w:World) (h:Sat w0 w any)=>refRow mv c.timers 6 0 (c.sems.length-1) w (hM.later h));clear hr;have hsl:=hS.len;obtain ⟨sa,scap,_,_,rfl,_⟩:=hS;obtain ⟨qa,qcap,_,_,rfl,_⟩:=hQ;obtain ⟨ma,mcap,_,_,rfl,_⟩:=hM;obtain ⟨ta,tcap,tg,tto,rfl,_,_,hta,htc⟩:=hT;obtain ⟨la,lcap,lg',lo,rfl,_,_,hla,hlc⟩:=hL;rw [hTn,hLn];have u1:IntKind.i64.wrap ((c.sems.length:Int)-1)=(c.sems.length:Int)-1:=by rw [IntKind.wrap_i64];unfold maxLen at hsl;omega
 have Hta:=hid hta;have Htc:=hid htc;have Hla:=hid hla;have Hlc:=hid hlc;have HTn:=hid hTn;have HLn:=hid hLn;have HTi:=hid hTi;have HLi:=hid hLi;have Rg:=hid rg;clear hta htc hla hlc hTn hLn hTi hLi rg hsl
 by_cases hl:64<c.ts.length
 ·have d1:decide (64<c.ts.length)=true:=decide_eq_true hl;have d2:decide ((64:Int)<(c.ts.length:Int))=true:=by simp;omega
  have hb:=hid (show ¬ Fine c from fun h=>by have:=h.tn;omega)
  go_enter Tryz.func21,Tryz.ntmps21
  go_wp2_with fail;refine (refFault _ _ _ _ w0 _ _ own_it).mono ?_;rintro en w1 ⟨rfl,hs1⟩;unfold ftV;go_wp2_with fail;go_returns;exact RetF.no ⟨_,_,_,_⟩ own_left (by simp) hb.out
 have d1:decide (64<c.ts.length)=false:=decide_eq_false hl;have d2:decide ((64:Int)<(c.ts.length:Int))=false:=by simp;omega
 have htl:c.ts.length≤64:=by omega
 clear hl
 go_enter Tryz.func21,Tryz.ntmps21
 go_wp2_with fail;refine wp_gen (w0:=w0) ?_;intro ww hsw;clear hs
 go_loopw [3] (fun i wr=>∃ k:Nat,k≤c.ts.length∧i=.int .i64 k∧(∀ j,j<k→TaskFine (tcg c j))∧Sat w0 wr (pts w0.heap.size 0 [.slice ta c.ts.length tcap,.slice la c.ls.length lcap,.int .i64 c.mutexes,.slice sa c.sems.length scap,.slice qa c.queues.length qcap,.slice ma c.timers.length mcap,.int .i64 c.table,.int .u32 c.mask,.int .u32 c.filter,.int .i64 c.charge,.int .u64 c.cycle,.int .u64 c.count]*(pts (w0.heap.size+1) 0 [.int .i64 0,.int .i64 0,.int .i64 0,.int .i64 0]*any))) (fun i _=>c.ts.length-(intOf i).toNat)
 case atStart=>exact ⟨0,Nat.zero_le _,rfl,fun j hj=>absurd hj (by omega),own_left⟩
 case round =>
  obtain ⟨k,hk,rfl,hb,hsr⟩:=hrel;clear hsw;have Hb:=hid hb;clear hb
  by_cases hlt:k<c.ts.length
  ·have d3:decide (k<c.ts.length)=true:=decide_eq_true hlt;have i3:(k:Int)<(c.ts.length:Int):=by omega
   have hTl:=HTn.out;obtain rfl:=Hta.out (by intro h;simp [h] at hTl;omega);have hit:=HTi.out k hlt;obtain ⟨u,hu⟩:∃ u,u=T.getD k tv0:=⟨_,rfl⟩;have oc:∀ c' y,c'<6→(encTv.enc u)[c']?=some y→w0.cell? ⟨tg,tto+k*6+c',none⟩=some y:=fun c' y hc6 he=>oldArr_at Htc.out (by omega) hc6 (by show (encTv.enc (T.getD k tv0))[c']?=some y;rw [← hu];exact he);rw [← hu] at hit;have hit:IsT w0 u (tcg c k):=hit;haveI o0:Old w0 tg (tto+k*6) (.int .i64 (tcg c k).lev):=⟨by rw [← hit.lev];exact oc 0 _ (by decide) rfl⟩;haveI o1:Old w0 tg (tto+k*6+1) (.int .i64 (tcg c k).off):=⟨by rw [← hit.off];exact oc 1 _ (by decide) rfl⟩;haveI o2:Old w0 tg (tto+k*6+2) (.int .i64 (tcg c k).per):=⟨by rw [← hit.per];exact oc 2 _ (by decide) rfl⟩;haveI o3:Old w0 tg (tto+k*6+3) (.int .i64 (tcg c k).dl):=⟨by rw [← hit.dl];exact oc 3 _ (by decide) rfl⟩;haveI o4:Old w0 tg (tto+k*6+4) (.int .i64 (tcg c k).mem):=⟨by rw [← hit.mem];exact oc 4 _ (by decide) rfl⟩;haveI o5:Old w0 tg (tto+k*6+5) (.slice u.ca u.cn u.cc):=⟨oc 5 _ (by decide) rfl⟩;have hC:=hid (fun (w:World) (h:Sat w0 w any)=>refCode u.cv (tcg c k).code false (Rg.out.tk k hlt) w (hit.code.later h));clear oc hu hTl hit;go_wp2_with fail;refine (refOut _ _ _ _ rfl _).mono ?_;rintro en w1 ⟨rfl,rfl⟩
   cases g:inR (tcg c k).lev 0 31
   rotate_left
   have G1:=hid g;clear g;go_wp2_with fail;refine (refOut _ _ _ _ rfl _).mono ?_;rintro en w1 ⟨rfl,rfl⟩
   cases g:inR (tcg c k).off 1 1073741824
   rotate_left
   have G2:=hid g;clear g;go_wp2_with fail;refine (refOut _ _ _ _ rfl _).mono ?_;rintro en w1 ⟨rfl,rfl⟩
   cases g:inR (tcg c k).per 0 1073741824
   rotate_left
   have G3:=hid g;clear g;go_wp2_with fail;refine (refOut _ _ _ _ rfl _).mono ?_;rintro en w1 ⟨rfl,rfl⟩
   cases g:inR (tcg c k).dl 0 1073741824
   rotate_left
   have G4:=hid g;clear g;go_wp2_with fail;refine (refOut _ _ _ _ rfl _).mono ?_;rintro en w1 ⟨rfl,rfl⟩
   cases g:inR (tcg c k).mem 0 256
   rotate_left
   have G5:=hid g;clear g;go_wp2_with fail;refine (hC.out _ own_left).mono ?_;rintro en w1 ⟨z,kk,rfl,hs1,hz⟩;have hs2:=Sat.past (w0:=w0) own_it hs1;clear hs1 hsr
   by_cases hz0:z=0
   case neg =>
    have z1:(z != 0)=true:=by simp [hz0]
    have hb:=hid (show ¬ Fine c from fun h=>hz0 (hz.2 (h.tk k hlt).2.2.2.2.2));have Hz0:=hid hz0;clear hz hz0;go_wp2_with fail;refine (refFault _ _ _ _ w0 _ _ own_it).mono ?_;rintro en w1 ⟨rfl,hs1⟩;unfold ftV;go_wp2_with fail;go_returns;exact RetF.no ⟨_,_,_,_⟩ own_left Hz0.out hb.out
   have hb2:=hid (show ∀ j,j<k+1→TaskFine (tcg c j) from fun j hj=>by
    rcases Nat.lt_or_ge j k with h | h
    ·exact Hb.out j h
    ·obtain rfl:j=k:=by omega
     exact ⟨G1.out,G2.out,G3.out,G4.out,G5.out,hz.1 hz0⟩)
   subst hz0;clear hz;go_wp2_with fail;go_roundw
   case rel=>exact ⟨k+1,by omega,by go_num,hb2.out,own_left⟩
   case measure=>simp [intOf];omega
   all_goals
    have hb:=hid (show ¬ Fine c from fun h=>by first | exact absurd (g.symm.trans (h.tk k hlt).1) (by decide) | exact absurd (g.symm.trans (h.tk k hlt).2.1) (by decide) | exact absurd (g.symm.trans (h.tk k hlt).2.2.1) (by decide) | exact absurd (g.symm.trans (h.tk k hlt).2.2.2.1) (by decide) | exact absurd (g.symm.trans (h.tk k hlt).2.2.2.2.1) (by decide));clear g;go_wp2_with fail;refine (refFault _ _ _ _ w0 _ _ own_it).mono ?_;rintro en w1 ⟨rfl,hs1⟩;unfold ftV;go_wp2_with fail;go_returns;exact RetF.no ⟨_,_,_,_⟩ own_left (by simp) hb.out
  have hkl:k=c.ts.length:=by omega
  subst hkl;have d3:decide (c.ts.length<c.ts.length)=false:=by simp
  clear hlt hk
  by_cases hl2:16<c.ls.length
  ·have d4:decide (16<c.ls.length)=true:=decide_eq_true hl2;have d5:decide ((16:Int)<(c.ls.length:Int))=true:=by simp;omega
   have hb:=hid (show ¬ Fine c from fun h=>by have:=h.ln;omega);go_wp2_with fail;refine (refFault _ _ _ _ w0 _ _ own_it).mono ?_;rintro en w1 ⟨rfl,hs1⟩;unfold ftV;go_wp2_with fail;go_returns;exact RetF.no ⟨_,_,_,_⟩ own_left (by simp) hb.out
  have d4:decide (16<c.ls.length)=false:=decide_eq_false hl2;have d5:decide ((16:Int)<(c.ls.length:Int))=false:=by simp;omega
  have hll:c.ls.length≤16:=by omega
  clear hl2;go_wp2_with fail;refine wp_gen (w0:=w0) ?_;intro w3 hs3;clear hsr
  go_loopw [7] (fun i wr=>∃ k:Nat,k≤c.ls.length∧i=.int .i64 k∧(∀ j,j<k→LineFine (lcg c j))∧Sat w0 wr (pts w0.heap.size 0 [.slice ta c.ts.length tcap,.slice la c.ls.length lcap,.int .i64 c.mutexes,.slice sa c.sems.length scap,.slice qa c.queues.length qcap,.slice ma c.timers.length mcap,.int .i64 c.table,.int .u32 c.mask,.int .u32 c.filter,.int .i64 c.charge,.int .u64 c.cycle,.int .u64 c.count]*(pts (w0.heap.size+1) 0 [.int .i64 0,.int .i64 0,.int .i64 0,.int .i64 0]*any))) (fun i _=>c.ls.length-(intOf i).toNat)
  case atStart=>exact ⟨0,Nat.zero_le _,rfl,fun j hj=>absurd hj (by omega),own_left⟩
  case round =>
   obtain ⟨k,hk,rfl,hb,hsr⟩:=hrel;clear hs3;have Hb2:=hid hb;clear hb
   by_cases hlt:k<c.ls.length
   ·have d6:decide (k<c.ls.length)=true:=decide_eq_true hlt;have i3:(k:Int)<(c.ls.length:Int):=by omega
    have hLl:=HLn.out;obtain rfl:=Hla.out (by intro h;simp [h] at hLl;omega);have hit:=HLi.out k hlt;obtain ⟨u,hu⟩:∃ u,u=L.getD k lv0:=⟨_,rfl⟩;have oc:∀ c' y,c'<2→(encLv.enc u)[c']?=some y→w0.cell? ⟨lg',lo+k*2+c',none⟩=some y:=fun c' y hc6 he=>oldArr_at Hlc.out (by omega) hc6 (by show (encLv.enc (L.getD k lv0))[c']?=some y;rw [← hu];exact he);rw [← hu] at hit;have hit:IsL w0 u (lcg c k):=hit;haveI o0:Old w0 lg' (lo+k*2) (.int .i64 (lcg c k).mem):=⟨by rw [← hit.mem];exact oc 0 _ (by decide) rfl⟩;haveI o1:Old w0 lg' (lo+k*2+1) (.slice u.ca u.cn u.cc):=⟨oc 1 _ (by decide) rfl⟩;have hC:=hid (fun (w:World) (h:Sat w0 w any)=>refCode u.cv (lcg c k).code true (Rg.out.lk k hlt) w (hit.code.later h));clear oc hu hLl hit;go_wp2_with fail;refine (refOut _ _ _ _ rfl _).mono ?_;rintro en w1 ⟨rfl,rfl⟩
    cases g:inR (lcg c k).mem 0 256
    rotate_left
    have G1:=hid g;clear g;go_wp2_with fail;refine (hC.out _ own_left).mono ?_;rintro en w1 ⟨z,kk,rfl,hs1,hz⟩;have hs2:=Sat.past (w0:=w0) own_it hs1;clear hs1 hsr
    by_cases hz0:z=0
    case neg =>
     have z1:(z != 0)=true:=by simp [hz0]
     have hb:=hid (show ¬ Fine c from fun h=>hz0 (hz.2 (h.lk k hlt).2));have Hz0:=hid hz0;clear hz hz0;go_wp2_with fail;refine (refFault _ _ _ _ w0 _ _ own_it).mono ?_;rintro en w1 ⟨rfl,hs1⟩;unfold ftV;go_wp2_with fail;go_returns;exact RetF.no ⟨_,_,_,_⟩ own_left Hz0.out hb.out
    have hb2:=hid (show ∀ j,j<k+1→LineFine (lcg c j) from fun j hj=>by
     rcases Nat.lt_or_ge j k with h | h
     ·exact Hb2.out j h
     ·obtain rfl:j=k:=by omega
      exact ⟨G1.out,hz.1 hz0⟩)
    subst hz0;clear hz;go_wp2_with fail;go_roundw
    case rel=>exact ⟨k+1,by omega,by go_num,hb2.out,own_left⟩
    case measure=>simp [intOf];omega
    all_goals
     have hb:=hid (show ¬ Fine c from fun h=>by first | exact absurd (g.symm.trans (h.lk k hlt).1) (by decide));clear g;go_wp2_with fail;refine (refFault _ _ _ _ w0 _ _ own_it).mono ?_;rintro en w1 ⟨rfl,hs1⟩;unfold ftV;go_wp2_with fail;go_returns;exact RetF.no ⟨_,_,_,_⟩ own_left (by simp) hb.out
   have hkl:k=c.ls.length:=by omega
   subst hkl;have d6:decide (c.ls.length<c.ls.length)=false:=by simp
   clear hlt hk;go_wp2_with fail;refine (refOut _ _ _ _ rfl _).mono ?_;rintro en w1 ⟨rfl,rfl⟩
   cases g:inR c.mutexes 0 32
   case false =>
    have hb:=hid (show ¬ Fine c from fun h=>absurd (g.symm.trans h.mu) (by decide));clear g;go_wp2_with fail;refine (refFault _ _ _ _ w0 _ _ own_it).mono ?_;rintro en w1 ⟨rfl,hs1⟩;unfold ftV;go_wp2_with fail;go_returns;exact RetF.no ⟨_,_,_,_⟩ own_left (by simp) hb.out
   have G1:=hid g;clear g;go_wp2_with fail;refine (hRs.out _ own_left).mono ?_;rintro en w1 ⟨f,rfl,hs1,hf⟩;have hs2:=Sat.past (w0:=w0) own_it hs1;clear hs1 hsr;have hsr:=hs2;clear hs2;unfold ftV
   by_cases hz0:f.err=0
   case neg =>
    have z1:(f.err != 0)=true:=by simp [hz0]
    have hb:=hid (show ¬ Fine c from fun h=>hz0 (hf.2 h.se));have Hz0:=hid hz0;clear hf hz0;go_wp2_with fail;go_returns;exact RetF.no ⟨_,_,_,_⟩ own_left Hz0.out hb.out
   have G2:=hid (hf.1 hz0);have z1:(f.err != 0)=false:=by simp [hz0]
   clear hf hz0;go_wp2_with fail;refine (hRq.out _ own_left).mono ?_;rintro en w1 ⟨f,rfl,hs1,hf⟩;have hs2:=Sat.past (w0:=w0) own_it hs1;clear hs1 hsr;have hsr:=hs2;clear hs2;unfold ftV
   by_cases hz0:f.err=0
   case neg =>
    have z1:(f.err != 0)=true:=by simp [hz0]
    have hb:=hid (show ¬ Fine c from fun h=>hz0 (hf.2 h.qu));have Hz0:=hid hz0;clear hf hz0;go_wp2_with fail;go_returns;exact RetF.no ⟨_,_,_,_⟩ own_left Hz0.out hb.out
   have G3:=hid (hf.1 hz0);have z1:(f.err != 0)=false:=by simp [hz0]
   clear hf hz0;go_wp2_with fail;refine (hRt.out _ own_left).mono ?_;rintro en w1 ⟨f,rfl,hs1,hf⟩;have hs2:=Sat.past (w0:=w0) own_it hs1;clear hs1 hsr;have hsr:=hs2;clear hs2;unfold ftV
   by_cases hz0:f.err=0
   case neg =>
    have z1:(f.err != 0)=true:=by simp [hz0]
    have hb:=hid (show ¬ Fine c from fun h=>hz0 (hf.2 h.tm));have Hz0:=hid hz0;clear hf hz0;go_wp2_with fail;go_returns;exact RetF.no ⟨_,_,_,_⟩ own_left Hz0.out hb.out
   have G4:=hid (hf.1 hz0);have z1:(f.err != 0)=false:=by simp [hz0]
   clear hf hz0;go_wp2_with fail;refine (refOut _ _ _ _ rfl _).mono ?_;rintro en w1 ⟨rfl,rfl⟩
   cases g:inR c.table 0 64
   case false =>
    have hb:=hid (show ¬ Fine c from fun h=>absurd (g.symm.trans h.tb) (by decide));clear g;go_wp2_with fail;refine (refFault _ _ _ _ w0 _ _ own_it).mono ?_;rintro en w1 ⟨rfl,hs1⟩;unfold ftV;go_wp2_with fail;go_returns;exact RetF.no ⟨_,_,_,_⟩ own_left (by simp) hb.out
   have G5:=hid g;clear g;go_wp2_with fail;refine wp_gen (w0:=w0) ?_;intro w5 hs5;clear hsr
   go_loopw [13,14] (fun m i wr=>∃ k:Nat,k≤c.ls.length∧m=.int .u32 ((c.mask / 2^k:Nat):Int)∧i=.int .i64 k∧Sat w0 wr (pts w0.heap.size 0 [.slice ta c.ts.length tcap,.slice la c.ls.length lcap,.int .i64 c.mutexes,.slice sa c.sems.length scap,.slice qa c.queues.length qcap,.slice ma c.timers.length mcap,.int .i64 c.table,.int .u32 c.mask,.int .u32 c.filter,.int .i64 c.charge,.int .u64 c.cycle,.int .u64 c.count]*(pts (w0.heap.size+1) 0 [.int .i64 0,.int .i64 0,.int .i64 0,.int .i64 0]*any))) (fun _ i _=>c.ls.length-(intOf i).toNat)
   case atStart=>exact ⟨0,Nat.zero_le _,by simp,rfl,own_left⟩
   case round =>
    obtain ⟨k,hk,rfl,rfl,hsr⟩:=hrel;clear hs5
    by_cases hlt:k<c.ls.length
    ·have d7:decide (k<c.ls.length)=true:=decide_eq_true hlt;have i3:(k:Int)<(c.ls.length:Int):=by omega
     have hm:=Rg.out.mask;have hle:c.mask / 2^k≤c.mask:=Nat.div_le_self _ _;obtain ⟨q,hq⟩:∃ q,q=c.mask / 2^k:=⟨_,rfl⟩;have hq2:c.mask / 2^(k+1)=q / 2:=by rw [Nat.pow_succ,← Nat.div_div_eq_div_mul,hq]
     have Hq:=hid hq2;rw [← hq] at hle ⊢;have hq3:q<4294967296:=by omega
     clear hq hq2 hle hm;go_wp2_with fail;go_roundw
     case rel=>exact ⟨k+1,by omega,by rw [Hq.out];go_num,by go_num,own_left⟩
     case measure=>simp [intOf];omega
    ·have hkl:k=c.ls.length:=by omega
     subst hkl;have d7:decide (c.ls.length<c.ls.length)=false:=by simp
     have hmo:maskOk c=decide (c.mask / 2^c.ls.length=0):=by
      unfold maskOk;rw [Nat.min_eq_left hll,Nat.shiftRight_eq_div_pow]
     generalize c.mask / 2^c.ls.length=q at *;clear hlt hk
     by_cases hq:q=0
     case neg =>
      have q1:((q:Int) != 0)=true:=by simp;omega
      have hb:=hid (show ¬ Fine c from fun h=>hq (of_decide_eq_true (hmo.symm.trans h.ms)));clear hmo hq;go_wp2_with fail;refine (refFault _ _ _ _ w0 _ _ own_it).mono ?_;rintro en w1 ⟨rfl,hs1⟩;unfold ftV;go_wp2_with fail;go_returns;exact RetF.no ⟨_,_,_,_⟩ own_left (by simp) hb.out
     subst hq;have G6:=hid (show maskOk c=true from hmo);clear hmo;go_wp2_with fail;refine (refOut _ _ _ _ rfl _).mono ?_;rintro en w1 ⟨rfl,rfl⟩
     cases g:inR c.charge 0 64
     case false =>
      have hb:=hid (show ¬ Fine c from fun h=>absurd (g.symm.trans h.ch) (by decide));clear g;go_wp2_with fail;refine (refFault _ _ _ _ w0 _ _ own_it).mono ?_;rintro en w1 ⟨rfl,hs1⟩;unfold ftV;go_wp2_with fail;go_returns;exact RetF.no ⟨_,_,_,_⟩ own_left (by simp) hb.out
     have G7:=hid g;clear g;have hx:=hid (show Fine c from ⟨htl,Hb.out,hll,Hb2.out,G1.out,G2.out,G3.out,G4.out,G5.out,G6.out,G7.out⟩);go_wp2_with fail;go_returns;exact ⟨ft0,rfl,own_left,fun _=>hx.out,fun _=>rfl⟩
end Go.Proofs.YtkeommmigopnkaaGreatDoor
namespace Go.Proofs.YtkeommmigopnkaaGreatDoor
open Go.RowKit Go.Sx Go.Au
structure Tr where
 st:Int
 on:Int
 late:Int
 lev:Int
 job:Nat
def toTr (t:Tk):Tr:=⟨t.st,t.on,t.late,t.lev-1,t.job⟩
instance encTr:Enc Tr 5 where
 enc t:=[.int .i64 t.st,.int .i64 t.on,.int .i64 t.late,.int .i64 t.lev,.int .u32 t.job]
 len _:=rfl
 one t:=by intro u hu;simp at hu;rcases hu with rfl | rfl | rfl | rfl | rfl<;>rfl
 dft:=toTr tk0
 pos:=by decide
class SetR (x:Tk) (c:Nat) (v:Value) (x':outParam Tk):Prop where
 set_:encTr.enc (toTr x')=(encTr.enc (toTr x)).set c v
 lt:c<5
instance (x:Tk) (n:Int):SetR x 0 (.int .i64 n) { x with st:=n }:=⟨rfl,by decide⟩
instance (x:Tk) (n:Nat):SetR x 1 (.int .i64 n) { x with on:=n }:=⟨rfl,by decide⟩
instance (x:Tk) (n:Int):SetR x 2 (.int .i64 n) { x with late:=n }:=⟨rfl,by decide⟩
instance (x:Tk) (n:Int):SetR x 3 (.int .i64 n) { x with lev:=n+1 }:=⟨by show [_,_,_,Value.int .i64 (n+1-1),_]=_;rw [Int.add_sub_cancel];rfl,by decide⟩
instance (x:Tk) (n:Nat):SetR x 4 (.int .u32 n) { x with job:=n }:=⟨rfl,by decide⟩
theorem trAt {l:List Tk} {k:Nat} (h:k<l.length):(l.map toTr).getD k encTr.dft=toTr (tkg l k):=by
 unfold tkg;simp [List.getD,h]
theorem tr_cell {g off n cap k c:Nat} {l:List Tk} {v:Value} (h:k<l.length) (hc:(encTr.enc (toTr (tkg l k)))[c]?=some v) {w0 w:World} {F:HP} (hs:Sat w0 w (recsP (.slice (some ⟨g,off,none⟩) n cap) (l.map toTr)*F)):w.cell? ⟨g,off+k*5+c,none⟩=some v∧w.frozen? ⟨g,off+k*5+c,none⟩=false :=
 hs.recs_cell (by simpa using h) (by rw [trAt h];exact hc)
theorem tr_upd {g off n cap k c:Nat} {l:List Tk} {x':Tk} {v:Value} (h:k<l.length) (e:SetR (tkg l k) c v x') {w0 w:World} {F:HP} (hs:Sat w0 w (recsP (.slice (some ⟨g,off,none⟩) n cap) (l.map toTr)*F)):Sat w0 (w.setCell ⟨g,off+k*5+c,none⟩ v) (recsP (.slice (some ⟨g,off,none⟩) n cap) ((l.set k x').map toTr)*F):=by
 have:=recs_upd hs (k:=k) (c:=c) (v:=v) (x':=toTr x') (by simpa using h) e.lt (by rw [trAt h];exact e.set_)
 rwa [← List.map_set] at this
section
variable (g off n cap k:Nat) (l:List Tk) (x x':Tk) (v:Value) (c:Nat)
instance (priority:=1300) [h:Lt k l.length]:Cell (recsP (.slice (some ⟨g,off,none⟩) n cap) (l.map toTr)) g (off+k*5) (.int .i64 (tkg l k).st):=⟨fun hs=>(tr_cell (c:=0) h.lt rfl hs).1,fun hs=>(tr_cell (c:=0) h.lt rfl hs).2⟩
instance (priority:=1300) [h:Lt k l.length]:Cell (recsP (.slice (some ⟨g,off,none⟩) n cap) (l.map toTr)) g (off+k*5+1) (.int .i64 (tkg l k).on):=⟨fun hs=>(tr_cell h.lt rfl hs).1,fun hs=>(tr_cell h.lt rfl hs).2⟩
instance (priority:=1300) [h:Lt k l.length]:Cell (recsP (.slice (some ⟨g,off,none⟩) n cap) (l.map toTr)) g (off+k*5+2) (.int .i64 (tkg l k).late):=⟨fun hs=>(tr_cell h.lt rfl hs).1,fun hs=>(tr_cell h.lt rfl hs).2⟩
instance (priority:=1300) [h:Lt k l.length]:Cell (recsP (.slice (some ⟨g,off,none⟩) n cap) (l.map toTr)) g (off+k*5+3) (.int .i64 ((tkg l k).lev-1)):=⟨fun hs=>(tr_cell h.lt rfl hs).1,fun hs=>(tr_cell h.lt rfl hs).2⟩
instance (priority:=1300) [h:Lt k l.length]:Cell (recsP (.slice (some ⟨g,off,none⟩) n cap) (l.map toTr)) g (off+k*5+4) (.int .u32 (tkg l k).job):=⟨fun hs=>(tr_cell h.lt rfl hs).1,fun hs=>(tr_cell h.lt rfl hs).2⟩
theorem tkg_set (h:k<l.length):tkg (l.set k x) k=x:=by unfold tkg;exact getD_set_self h x tk0
instance (priority:=1400) [h:Lt k l.length]:Cell (recsP (.slice (some ⟨g,off,none⟩) n cap) ((l.set k x).map toTr)) g (off+k*5) (.int .i64 x.st):=⟨fun hs=>(tr_cell (c:=0) (by rw [List.length_set];exact h.lt) (by rw [tkg_set _ _ _ h.lt];rfl) hs).1,fun hs=>(tr_cell (c:=0) (by rw [List.length_set];exact h.lt) (by rw [tkg_set _ _ _ h.lt];rfl) hs).2⟩
instance (priority:=1400) [h:Lt k l.length]:Cell (recsP (.slice (some ⟨g,off,none⟩) n cap) ((l.set k x).map toTr)) g (off+k*5+1) (.int .i64 x.on):=⟨fun hs=>(tr_cell (by rw [List.length_set];exact h.lt) (by rw [tkg_set _ _ _ h.lt];rfl) hs).1,fun hs=>(tr_cell (by rw [List.length_set];exact h.lt) (by rw [tkg_set _ _ _ h.lt];rfl) hs).2⟩
instance (priority:=1400) [h:Lt k l.length]:Cell (recsP (.slice (some ⟨g,off,none⟩) n cap) ((l.set k x).map toTr)) g (off+k*5+2) (.int .i64 x.late):=⟨fun hs=>(tr_cell (by rw [List.length_set];exact h.lt) (by rw [tkg_set _ _ _ h.lt];rfl) hs).1,fun hs=>(tr_cell (by rw [List.length_set];exact h.lt) (by rw [tkg_set _ _ _ h.lt];rfl) hs).2⟩
instance (priority:=1300) [h:Lt k l.length] [e:SetR (tkg l k) c v x']:Upd (recsP (.slice (some ⟨g,off,none⟩) n cap) (l.map toTr)) g (off+k*5+c) v (recsP (.slice (some ⟨g,off,none⟩) n cap) ((l.set k x').map toTr)):=⟨fun hs=>tr_upd h.lt e hs⟩
instance (priority:=1310) [h:Lt k l.length] [e:SetR (tkg l k) 0 v x']:Upd (recsP (.slice (some ⟨g,off,none⟩) n cap) (l.map toTr)) g (off+k*5) v (recsP (.slice (some ⟨g,off,none⟩) n cap) ((l.set k x').map toTr)):=⟨fun hs=>tr_upd h.lt e hs⟩
theorem tr_upd2 (h:k<l.length) (e:SetR x c v x') {w0 w:World} {F:HP} (hs:Sat w0 w (recsP (.slice (some ⟨g,off,none⟩) n cap) ((l.set k x).map toTr)*F)):Sat w0 (w.setCell ⟨g,off+k*5+c,none⟩ v) (recsP (.slice (some ⟨g,off,none⟩) n cap) ((l.set k x').map toTr)*F):=by
 have:=tr_upd (l:=l.set k x) (k:=k) (c:=c) (v:=v) (x':=x') (by rw [List.length_set];exact h) (by rw [tkg_set _ _ _ h];exact e) hs
 rwa [List.set_set] at this
instance (priority:=1400) [h:Lt k l.length] [e:SetR x c v x']:Upd (recsP (.slice (some ⟨g,off,none⟩) n cap) ((l.set k x).map toTr)) g (off+k*5+c) v (recsP (.slice (some ⟨g,off,none⟩) n cap) ((l.set k x').map toTr)):=⟨fun hs=>tr_upd2 _ _ _ _ _ _ _ _ _ _ h.lt e hs⟩
instance (priority:=1410) [h:Lt k l.length] [e:SetR x 0 v x']:Upd (recsP (.slice (some ⟨g,off,none⟩) n cap) ((l.set k x).map toTr)) g (off+k*5) v (recsP (.slice (some ⟨g,off,none⟩) n cap) ((l.set k x').map toTr)):=⟨fun hs=>tr_upd2 _ _ _ _ _ _ _ _ _ _ h.lt e hs⟩
end
def dn (l:List Int):List Value:=l.map fun o=>.int .i64 (o-1)
theorem dn_get {l:List Int} {k:Nat} (h:k<l.length):(dn l)[k]?=some (.int .i64 (owg l k-1)):=by
 unfold dn owg;simp [List.getD,h]
theorem dn_set (l:List Int) (k:Nat) (n:Int):(dn l).set k (.int .i64 n)=dn (l.set k (n+1)):=by
 unfold dn;rw [List.map_set,Int.add_sub_cancel]
instance (priority:=1300) (b o k:Nat) (l:List Int) [h:Lt k l.length]:Cell (pts b o (dn l)) b (o+k) (.int .i64 (owg l k-1)):=⟨fun hs=>(pts_split hs (dn_get h.lt)).1,fun hs=>(pts_split hs (dn_get h.lt)).2⟩
instance (priority:=1300) (b o k:Nat) (n:Int) (l:List Int) [h:Lt k l.length]:Upd (pts b o (dn l)) b (o+k) (.int .i64 n) (pts b o (dn (l.set k (n+1)))) :=
 ⟨fun hs=>by rw [← dn_set];exact hs.set (by unfold dn;rw [List.length_map];exact h.lt) _⟩
def rn (r:Int):Int:=if r=0 then 255 else r-1
abbrev duEv (d:Du):Ev:=⟨d.k,0,0,d.a,d.b,0⟩
def rfV (b:Nat) (A:Au) (v:Value):HP :=
 pts b 0 [v]*(recsP v (A.ts.map toTr)*(pts b 1 (dn A.ow)*(pts b 33 (A.pn.map Value.bool)*(pts b 49 [.int .i64 (A.isr-1),.int .i64 (rn A.run)]*(pts b 51 (evCells A.last)*(pts b 57 (evCells (duEv A.due))*pts b 63 [.int .i64 A.seen,.bool false]))))))
def rfP (b:Nat) (A:Au):HP:=ex fun v=>rfV b A v
theorem rfP_out {w0 w:World} {F:HP} {b:Nat} {A:Au} (hA:AOk A) (hs:Sat w0 w (rfP b A*F)):∃ g off cap,64≤cap∧cap≤9223372036854775807 ∧
  Sat w0 w (pts b 0 [.slice (some ⟨g,off,none⟩) 64 cap]*(recsP (.slice (some ⟨g,off,none⟩) 64 cap) (A.ts.map toTr)*(pts b 1 (dn A.ow)*(pts b 33 (A.pn.map Value.bool)*(pts b 49 [.int .i64 (A.isr-1),.int .i64 (rn A.run)]*(pts b 51 (evCells A.last)*(pts b 57 (evCells (duEv A.due))*(pts b 63 [.int .i64 A.seen,.bool false]*F)))))))):=by
 obtain ⟨v,hs⟩:=hs.ex_out;have h1:Sat w0 w (recsP v (A.ts.map toTr)*(pts b 0 [v]*(pts b 1 (dn A.ow)*(pts b 33 (A.pn.map Value.bool)*(pts b 49 [.int .i64 (A.isr-1),.int .i64 (rn A.run)]*(pts b 51 (evCells A.last)*(pts b 57 (evCells (duEv A.due))*(pts b 63 [.int .i64 A.seen,.bool false]*F)))))))):=hs.perm (by unfold rfV;ac_rfl);obtain ⟨a,c,rfl⟩:=h1.recs_form;have hl:(A.ts.map toTr).length=64:=by rw [List.length_map,hA.lt]
 have hc:=h1.rdR.caps;obtain ⟨g,off,rfl⟩:=Sat.someR (E:=encTr) h1 a (A.ts.map toTr).length c (by omega);rw [hl] at h1 hc;unfold maxLen at hc;exact ⟨g,off,c,hc.2.1,by omega,h1.perm (by ac_rfl)⟩
theorem rfP_of {w0 w:World} {F:HP} {b:Nat} {A:Au} {v:Value} (hs:Sat w0 w (pts b 0 [v]*(recsP v (A.ts.map toTr)*(pts b 1 (dn A.ow)*(pts b 33 (A.pn.map Value.bool)*(pts b 49 [.int .i64 (A.isr-1),.int .i64 (rn A.run)]*(pts b 51 (evCells A.last)*(pts b 57 (evCells (duEv A.due))*(pts b 63 [.int .i64 A.seen,.bool false]*F))))))))):Sat w0 w (rfP b A*F) :=
 Sat.ex_in (f:=fun v=>rfV b A v) v (hs.perm (by unfold rfV;ac_rfl))
theorem rn_eq {r:Int} (h:0≤r∧r≤64) {x:Nat} (hx:x<64):(rn r==(x:Int))=decide (r=(x:Int)+1):=by
 unfold rn;rw [Bool.eq_iff_iff,beq_iff_eq,decide_eq_true_eq];split<;>omega
theorem rfActs (b:Nat) (A:Au) (x:Nat) (w0 w:World) (F:HP) (hs:Sat w0 w (rfP b A*F)) (hA:AOk A) (hx:x<80) :
  Calls Tryz.prog 100 #[.pointer (some ⟨b,0,none⟩),.int .i64 x] w fun e w'=>e=.returned (.bool (acts A x))∧w=w':=by
 obtain ⟨g,off,cap,c1,c2,hs⟩:=rfP_out hA hs;have Hl:=hid hA.lt;have hi:=hA.isr;have hr:=hA.run
 by_cases h1:x<64
 ·have d1:(x:Int)<64:=by omega
  have d1':decide ((x:Int)<64)=true:=by simp;omega
  haveI:Lt x A.ts.length:=⟨by have:=Hl.out;omega⟩;have Hres:Hid (acts A x=(decide (A.isr=0) && decide (A.run=(x:Int)+1) && decide ((tkg A.ts x).st=1))):=by unfold Hid acts;rw [if_pos h1];rfl
  have hrn:=rn_eq hr h1;have Hr:=hid hr;have Hi:=hid hi;clear hi hr
  by_cases h2:A.isr=0
  ·have d2:decide (A.isr-1<0)=true:=by simp;omega
   rw [decide_eq_true h2,Bool.true_and] at Hres;clear h2
   by_cases h3:A.run=(x:Int)+1
   ·rw [decide_eq_true h3] at hrn Hres;clear h3
    go_enter Tryz.func100,Tryz.ntmps100
    go_wp2;go_ret;exact ⟨retB (by rw [Hres.out,Bool.eq_iff_iff];simp),rfl⟩
   ·rw [decide_eq_false h3] at hrn Hres;clear h3
    go_enter Tryz.func100,Tryz.ntmps100
    go_wp2;go_ret;exact ⟨retB (by rw [Hres.out];rfl),rfl⟩
  ·have d2:decide (A.isr-1<0)=false:=by have:=Hi.out;simp;omega
   rw [decide_eq_false h2,Bool.false_and] at Hres;clear h2
   go_enter Tryz.func100,Tryz.ntmps100
   go_wp2;go_ret;exact ⟨retB (by rw [Hres.out];rfl),rfl⟩
 ·have d1:¬ (x:Int)<64:=by omega
  have d1':decide ((x:Int)<64)=false:=by simp;omega
  have d3:decide ((x:Int)<80)=true:=by simp;omega
  have Hres:Hid (acts A x=decide (A.isr=(x:Int)-63)):=by unfold Hid acts;rw [if_neg h1,if_pos hx]
  go_enter Tryz.func100,Tryz.ntmps100
  go_wp2;go_ret;exact ⟨retB (by rw [Hres.out,Bool.eq_iff_iff];simp;omega),rfl⟩
theorem rfActsX (b:Nat) (A:Au) (a:Nat) (x:Bool) (hx:acts A a=x) (w0 w:World) (F:HP) (hs:Sat w0 w (rfP b A*F)) (hA:AOk A) (ha:a<80) :
  Calls Tryz.prog 100 #[.pointer (some ⟨b,0,none⟩),.int .i64 a] w fun e w'=>e=.returned (.bool x)∧w=w':=by
 subst hx;exact rfActs b A a w0 w F hs hA ha
theorem rfIn (n lo hi:Nat) (w:World):Calls Tryz.prog 133 #[.int .u32 n,.int .u32 lo,.int .u32 hi] w fun e w'=>e=.returned (.bool (decide (lo≤n∧n≤hi)))∧w=w':=by
 by_cases h:lo≤n
 ·have d:decide ((lo:Int)≤(n:Int))=true:=by simp;omega
  go_enter Tryz.func133,Tryz.ntmps133
  go_wp2;go_ret;exact ⟨retB (by rw [Bool.eq_iff_iff];simp [h]),rfl⟩
 ·have d:decide ((lo:Int)≤(n:Int))=false:=by simp;omega
  go_enter Tryz.func133,Tryz.ntmps133
  go_wp2;go_ret;exact ⟨retB (by rw [Bool.eq_iff_iff];simp [h]),rfl⟩
theorem rfInX (n lo hi:Nat) (x:Bool) (hx:decide (lo≤n∧n≤hi)=x) (w:World):Calls Tryz.prog 133 #[.int .u32 n,.int .u32 lo,.int .u32 hi] w fun e w'=>e=.returned (.bool x)∧w=w':=by
 subst hx;exact rfIn n lo hi w
theorem rfFirst1 (a b v:Nat) (cy co:Int) (w0 w:World) (P:HP) [hs:Sat w0 w P]:Calls Tryz.prog 97 #[evA 1 a b v cy co] w (RetV w0 (.bool (win a (shp 1).1)) P):=by
 go_enter Tryz.func97,Tryz.ntmps97
 go_wp2_with fail;refine (rfInX a 0 15 _ rfl _).mono ?_;rintro e w' ⟨rfl,rfl⟩;go_wp2_with fail;go_ret;exact ⟨retB (by rw [Bool.eq_iff_iff];simp [win,shp]),own_left⟩
theorem rfFirst2 (a b v:Nat) (cy co:Int) (w0 w:World) (P:HP) [hs:Sat w0 w P]:Calls Tryz.prog 97 #[evA 2 a b v cy co] w (RetV w0 (.bool (win a (shp 2).1)) P):=by
 go_enter Tryz.func97,Tryz.ntmps97
 go_wp2_with fail;refine (rfInX a 0 15 _ rfl _).mono ?_;rintro e w' ⟨rfl,rfl⟩;go_wp2_with fail;go_ret;exact ⟨retB (by rw [Bool.eq_iff_iff];simp [win,shp]),own_left⟩
theorem rfFirst3 (a b v:Nat) (cy co:Int) (w0 w:World) (P:HP) [hs:Sat w0 w P]:Calls Tryz.prog 97 #[evA 3 a b v cy co] w (RetV w0 (.bool (win a (shp 3).1)) P):=by
 go_enter Tryz.func97,Tryz.ntmps97
 go_wp2_with fail;refine (rfInX a 0 15 _ rfl _).mono ?_;rintro e w' ⟨rfl,rfl⟩;go_wp2_with fail;go_ret;exact ⟨retB (by rw [Bool.eq_iff_iff];simp [win,shp]),own_left⟩
theorem rfFirst4 (a b v:Nat) (cy co:Int) (w0 w:World) (P:HP) [hs:Sat w0 w P]:Calls Tryz.prog 97 #[evA 4 a b v cy co] w (RetV w0 (.bool (win a (shp 4).1)) P):=by
 go_enter Tryz.func97,Tryz.ntmps97
 go_wp2_with fail;refine (rfInX a 0 15 _ rfl _).mono ?_;rintro e w' ⟨rfl,rfl⟩;go_wp2_with fail;go_ret;exact ⟨retB (by rw [Bool.eq_iff_iff];simp [win,shp]),own_left⟩
theorem rfFirst5 (a b v:Nat) (cy co:Int) (w0 w:World) (P:HP) [hs:Sat w0 w P]:Calls Tryz.prog 97 #[evA 5 a b v cy co] w (RetV w0 (.bool (win a (shp 5).1)) P):=by
 generalize hy:decide (0≤a∧a≤63)=y;have Hy:=hid hy;clear hy
 cases y
 all_goals
  go_enter Tryz.func97,Tryz.ntmps97
  go_wp2_with fail;refine (rfInX a 0 63 _ Hy.out _).mono ?_;rintro e w' ⟨rfl,rfl⟩;go_wp2_with fail;go_ret;refine ⟨retB ?_,own_left⟩;have h1:=Hy.out
  first
   | (have h2:=of_decide_eq_true h1;rw [Bool.eq_iff_iff];simp [win,shp];omega)
   | (have h2:=of_decide_eq_false h1;rw [Bool.eq_iff_iff];simp [win,shp];omega)
theorem rfFirst6 (a b v:Nat) (cy co:Int) (w0 w:World) (P:HP) [hs:Sat w0 w P]:Calls Tryz.prog 97 #[evA 6 a b v cy co] w (RetV w0 (.bool (win a (shp 6).1)) P):=by
 go_enter Tryz.func97,Tryz.ntmps97
 go_wp2_with fail;refine (rfInX a 0 63 _ rfl _).mono ?_;rintro e w' ⟨rfl,rfl⟩;go_wp2_with fail;go_ret;exact ⟨retB (by rw [Bool.eq_iff_iff];simp [win,shp]),own_left⟩
theorem rfFirst7 (a b v:Nat) (cy co:Int) (w0 w:World) (P:HP) [hs:Sat w0 w P]:Calls Tryz.prog 97 #[evA 7 a b v cy co] w (RetV w0 (.bool (win a (shp 7).1)) P):=by
 go_enter Tryz.func97,Tryz.ntmps97
 go_wp2_with fail;refine (rfInX a 0 63 _ rfl _).mono ?_;rintro e w' ⟨rfl,rfl⟩;go_wp2_with fail;go_ret;exact ⟨retB (by rw [Bool.eq_iff_iff];simp [win,shp]),own_left⟩
theorem rfFirst8 (a b v:Nat) (cy co:Int) (w0 w:World) (P:HP) [hs:Sat w0 w P]:Calls Tryz.prog 97 #[evA 8 a b v cy co] w (RetV w0 (.bool (win a (shp 8).1)) P):=by
 go_enter Tryz.func97,Tryz.ntmps97
 go_wp2_with fail;refine (rfInX a 0 63 _ rfl _).mono ?_;rintro e w' ⟨rfl,rfl⟩;go_wp2_with fail;go_ret;exact ⟨retB (by rw [Bool.eq_iff_iff];simp [win,shp]),own_left⟩
theorem rfFirst9 (a b v:Nat) (cy co:Int) (w0 w:World) (P:HP) [hs:Sat w0 w P]:Calls Tryz.prog 97 #[evA 9 a b v cy co] w (RetV w0 (.bool (win a (shp 9).1)) P):=by
 go_enter Tryz.func97,Tryz.ntmps97
 go_wp2_with fail;refine (rfInX a 0 63 _ rfl _).mono ?_;rintro e w' ⟨rfl,rfl⟩;go_wp2_with fail;go_ret;exact ⟨retB (by rw [Bool.eq_iff_iff];simp [win,shp]),own_left⟩
theorem rfFirst10 (a b v:Nat) (cy co:Int) (w0 w:World) (P:HP) [hs:Sat w0 w P]:Calls Tryz.prog 97 #[evA 10 a b v cy co] w (RetV w0 (.bool (win a (shp 10).1)) P):=by
 go_enter Tryz.func97,Tryz.ntmps97
 go_wp2_with fail;refine (rfInX a 0 63 _ rfl _).mono ?_;rintro e w' ⟨rfl,rfl⟩;go_wp2_with fail;go_ret;exact ⟨retB (by rw [Bool.eq_iff_iff];simp [win,shp]),own_left⟩
theorem rfFirst11 (a b v:Nat) (cy co:Int) (w0 w:World) (P:HP) [hs:Sat w0 w P]:Calls Tryz.prog 97 #[evA 11 a b v cy co] w (RetV w0 (.bool (win a (shp 11).1)) P):=by
 go_enter Tryz.func97,Tryz.ntmps97
 go_wp2_with fail;refine (rfInX a 0 63 _ rfl _).mono ?_;rintro e w' ⟨rfl,rfl⟩;go_wp2_with fail;go_ret;exact ⟨retB (by rw [Bool.eq_iff_iff];simp [win,shp]),own_left⟩
theorem rfFirst12 (a b v:Nat) (cy co:Int) (w0 w:World) (P:HP) [hs:Sat w0 w P]:Calls Tryz.prog 97 #[evA 12 a b v cy co] w (RetV w0 (.bool (win a (shp 12).1)) P):=by
 go_enter Tryz.func97,Tryz.ntmps97
 go_wp2_with fail;refine (rfInX a 0 63 _ rfl _).mono ?_;rintro e w' ⟨rfl,rfl⟩;go_wp2_with fail;go_ret;exact ⟨retB (by rw [Bool.eq_iff_iff];simp [win,shp]),own_left⟩
theorem rfFirst13 (a b v:Nat) (cy co:Int) (w0 w:World) (P:HP) [hs:Sat w0 w P]:Calls Tryz.prog 97 #[evA 13 a b v cy co] w (RetV w0 (.bool (win a (shp 13).1)) P):=by
 go_enter Tryz.func97,Tryz.ntmps97
 go_wp2_with fail;refine (rfInX a 0 63 _ rfl _).mono ?_;rintro e w' ⟨rfl,rfl⟩;go_wp2_with fail;go_ret;exact ⟨retB (by rw [Bool.eq_iff_iff];simp [win,shp]),own_left⟩
theorem rfFirst14 (a b v:Nat) (cy co:Int) (w0 w:World) (P:HP) [hs:Sat w0 w P]:Calls Tryz.prog 97 #[evA 14 a b v cy co] w (RetV w0 (.bool (win a (shp 14).1)) P):=by
 go_enter Tryz.func97,Tryz.ntmps97
 go_wp2_with fail;refine (rfInX a 0 80 _ rfl _).mono ?_;rintro e w' ⟨rfl,rfl⟩;go_wp2_with fail;go_ret;exact ⟨retB (by rw [Bool.eq_iff_iff];simp [win,shp]),own_left⟩
theorem rfFirst15 (a b v:Nat) (cy co:Int) (w0 w:World) (P:HP) [hs:Sat w0 w P]:Calls Tryz.prog 97 #[evA 15 a b v cy co] w (RetV w0 (.bool (win a (shp 15).1)) P):=by
 go_enter Tryz.func97,Tryz.ntmps97
 go_wp2_with fail;refine (rfInX a 0 63 _ rfl _).mono ?_;rintro e w' ⟨rfl,rfl⟩;go_wp2_with fail;go_ret;exact ⟨retB (by rw [Bool.eq_iff_iff];simp [win,shp]),own_left⟩
theorem rfFirst16 (a b v:Nat) (cy co:Int) (w0 w:World) (P:HP) [hs:Sat w0 w P]:Calls Tryz.prog 97 #[evA 16 a b v cy co] w (RetV w0 (.bool (win a (shp 16).1)) P):=by
 go_enter Tryz.func97,Tryz.ntmps97
 go_wp2_with fail;refine (rfInX a 0 79 _ rfl _).mono ?_;rintro e w' ⟨rfl,rfl⟩;go_wp2_with fail;go_ret;exact ⟨retB (by rw [Bool.eq_iff_iff];simp [win,shp]),own_left⟩
theorem rfFirst17 (a b v:Nat) (cy co:Int) (w0 w:World) (P:HP) [hs:Sat w0 w P]:Calls Tryz.prog 97 #[evA 17 a b v cy co] w (RetV w0 (.bool (win a (shp 17).1)) P):=by
 go_enter Tryz.func97,Tryz.ntmps97
 go_wp2_with fail;refine (rfInX a 0 79 _ rfl _).mono ?_;rintro e w' ⟨rfl,rfl⟩;go_wp2_with fail;go_ret;exact ⟨retB (by rw [Bool.eq_iff_iff];simp [win,shp]),own_left⟩
theorem rfFirst18 (a b v:Nat) (cy co:Int) (w0 w:World) (P:HP) [hs:Sat w0 w P]:Calls Tryz.prog 97 #[evA 18 a b v cy co] w (RetV w0 (.bool (win a (shp 18).1)) P):=by
 go_enter Tryz.func97,Tryz.ntmps97
 go_wp2_with fail;refine (rfInX a 0 31 _ rfl _).mono ?_;rintro e w' ⟨rfl,rfl⟩;go_wp2_with fail;go_ret;exact ⟨retB (by rw [Bool.eq_iff_iff];simp [win,shp]),own_left⟩
theorem rfFirst19 (a b v:Nat) (cy co:Int) (w0 w:World) (P:HP) [hs:Sat w0 w P]:Calls Tryz.prog 97 #[evA 19 a b v cy co] w (RetV w0 (.bool (win a (shp 19).1)) P):=by
 go_enter Tryz.func97,Tryz.ntmps97
 go_wp2_with fail;refine (rfInX a 0 79 _ rfl _).mono ?_;rintro e w' ⟨rfl,rfl⟩;go_wp2_with fail;go_ret;exact ⟨retB (by rw [Bool.eq_iff_iff];simp [win,shp]),own_left⟩
theorem rfFirst20 (a b v:Nat) (cy co:Int) (w0 w:World) (P:HP) [hs:Sat w0 w P]:Calls Tryz.prog 97 #[evA 20 a b v cy co] w (RetV w0 (.bool (win a (shp 20).1)) P):=by
 go_enter Tryz.func97,Tryz.ntmps97
 go_wp2_with fail;refine (rfInX a 0 15 _ rfl _).mono ?_;rintro e w' ⟨rfl,rfl⟩;go_wp2_with fail;go_ret;exact ⟨retB (by rw [Bool.eq_iff_iff];simp [win,shp]),own_left⟩
theorem rfFirst21 (a b v:Nat) (cy co:Int) (w0 w:World) (P:HP) [hs:Sat w0 w P]:Calls Tryz.prog 97 #[evA 21 a b v cy co] w (RetV w0 (.bool (win a (shp 21).1)) P):=by
 go_enter Tryz.func97,Tryz.ntmps97
 go_wp2_with fail;refine (rfInX a 0 79 _ rfl _).mono ?_;rintro e w' ⟨rfl,rfl⟩;go_wp2_with fail;go_ret;exact ⟨retB (by rw [Bool.eq_iff_iff];simp [win,shp]),own_left⟩
theorem rfFirst22 (a b v:Nat) (cy co:Int) (w0 w:World) (P:HP) [hs:Sat w0 w P]:Calls Tryz.prog 97 #[evA 22 a b v cy co] w (RetV w0 (.bool (win a (shp 22).1)) P):=by
 go_enter Tryz.func97,Tryz.ntmps97
 go_wp2_with fail;refine (rfInX a 0 63 _ rfl _).mono ?_;rintro e w' ⟨rfl,rfl⟩;go_wp2_with fail;go_ret;exact ⟨retB (by rw [Bool.eq_iff_iff];simp [win,shp]),own_left⟩
theorem rfFirst23 (a b v:Nat) (cy co:Int) (w0 w:World) (P:HP) [hs:Sat w0 w P]:Calls Tryz.prog 97 #[evA 23 a b v cy co] w (RetV w0 (.bool (win a (shp 23).1)) P):=by
 go_enter Tryz.func97,Tryz.ntmps97
 go_wp2_with fail;refine (rfInX a 0 80 _ rfl _).mono ?_;rintro e w' ⟨rfl,rfl⟩;go_wp2_with fail;go_ret;exact ⟨retB (by rw [Bool.eq_iff_iff];simp [win,shp]),own_left⟩
theorem rfFirst24 (a b v:Nat) (cy co:Int) (w0 w:World) (P:HP) [hs:Sat w0 w P]:Calls Tryz.prog 97 #[evA 24 a b v cy co] w (RetV w0 (.bool (win a (shp 24).1)) P):=by
 go_enter Tryz.func97,Tryz.ntmps97
 go_wp2_with fail;go_ret;exact ⟨retB (by rw [Bool.eq_iff_iff];simp [win,shp]),own_left⟩
theorem rfFirst (k a b v:Nat) (hk:1≤k∧k≤24) (cy co:Int) (w0 w:World) (P:HP) [hs:Sat w0 w P]:Calls Tryz.prog 97 #[evA k a b v cy co] w (RetV w0 (.bool (win a (shp k).1)) P):=by
 have h:k=1∨k=2∨k=3∨k=4∨k=5∨k=6∨k=7∨k=8∨k=9∨k=10∨k=11∨k=12∨k=13∨k=14∨k=15∨k=16∨k=17∨k=18∨k=19∨k=20∨k=21∨k=22∨k=23∨k=24:=by omega
 rcases h with rfl | rfl | rfl | rfl | rfl | rfl | rfl | rfl | rfl | rfl | rfl | rfl | rfl | rfl | rfl | rfl | rfl | rfl | rfl | rfl | rfl | rfl | rfl | rfl
 ·exact rfFirst1 a b v cy co w0 w P
 ·exact rfFirst2 a b v cy co w0 w P
 ·exact rfFirst3 a b v cy co w0 w P
 ·exact rfFirst4 a b v cy co w0 w P
 ·exact rfFirst5 a b v cy co w0 w P
 ·exact rfFirst6 a b v cy co w0 w P
 ·exact rfFirst7 a b v cy co w0 w P
 ·exact rfFirst8 a b v cy co w0 w P
 ·exact rfFirst9 a b v cy co w0 w P
 ·exact rfFirst10 a b v cy co w0 w P
 ·exact rfFirst11 a b v cy co w0 w P
 ·exact rfFirst12 a b v cy co w0 w P
 ·exact rfFirst13 a b v cy co w0 w P
 ·exact rfFirst14 a b v cy co w0 w P
 ·exact rfFirst15 a b v cy co w0 w P
 ·exact rfFirst16 a b v cy co w0 w P
 ·exact rfFirst17 a b v cy co w0 w P
 ·exact rfFirst18 a b v cy co w0 w P
 ·exact rfFirst19 a b v cy co w0 w P
 ·exact rfFirst20 a b v cy co w0 w P
 ·exact rfFirst21 a b v cy co w0 w P
 ·exact rfFirst22 a b v cy co w0 w P
 ·exact rfFirst23 a b v cy co w0 w P
 ·exact rfFirst24 a b v cy co w0 w P
theorem rfThird1 (a b v:Nat) (cy co:Int) (w0 w:World) (P:HP) [hs:Sat w0 w P]:Calls Tryz.prog 99 #[evA 1 a b v cy co] w (RetV w0 (.bool (win v (shp 1).2.2)) P):=by
 go_enter Tryz.func99,Tryz.ntmps99
 go_wp2_with fail;go_ret;exact ⟨retB (by rw [Bool.eq_iff_iff];simp [win,shp]),own_left⟩
theorem rfThird2 (a b v:Nat) (cy co:Int) (w0 w:World) (P:HP) [hs:Sat w0 w P]:Calls Tryz.prog 99 #[evA 2 a b v cy co] w (RetV w0 (.bool (win v (shp 2).2.2)) P):=by
 go_enter Tryz.func99,Tryz.ntmps99
 go_wp2_with fail;go_ret;exact ⟨rfl,own_left⟩
theorem rfThird3 (a b v:Nat) (cy co:Int) (w0 w:World) (P:HP) [hs:Sat w0 w P]:Calls Tryz.prog 99 #[evA 3 a b v cy co] w (RetV w0 (.bool (win v (shp 3).2.2)) P):=by
 go_enter Tryz.func99,Tryz.ntmps99
 go_wp2_with fail;go_ret;exact ⟨retB (by rw [Bool.eq_iff_iff];simp [win,shp]),own_left⟩
theorem rfThird4 (a b v:Nat) (cy co:Int) (w0 w:World) (P:HP) [hs:Sat w0 w P]:Calls Tryz.prog 99 #[evA 4 a b v cy co] w (RetV w0 (.bool (win v (shp 4).2.2)) P):=by
 go_enter Tryz.func99,Tryz.ntmps99
 go_wp2_with fail;go_ret;exact ⟨retB (by rw [Bool.eq_iff_iff];simp [win,shp]),own_left⟩
theorem rfThird5 (a b v:Nat) (cy co:Int) (w0 w:World) (P:HP) [hs:Sat w0 w P]:Calls Tryz.prog 99 #[evA 5 a b v cy co] w (RetV w0 (.bool (win v (shp 5).2.2)) P):=by
 go_enter Tryz.func99,Tryz.ntmps99
 go_wp2_with fail;go_ret;exact ⟨retB (by rw [Bool.eq_iff_iff];simp [win,shp]),own_left⟩
theorem rfThird6 (a b v:Nat) (cy co:Int) (w0 w:World) (P:HP) [hs:Sat w0 w P]:Calls Tryz.prog 99 #[evA 6 a b v cy co] w (RetV w0 (.bool (win v (shp 6).2.2)) P):=by
 go_enter Tryz.func99,Tryz.ntmps99
 go_wp2_with fail;go_ret;exact ⟨rfl,own_left⟩
theorem rfThird7 (a b v:Nat) (cy co:Int) (w0 w:World) (P:HP) [hs:Sat w0 w P]:Calls Tryz.prog 99 #[evA 7 a b v cy co] w (RetV w0 (.bool (win v (shp 7).2.2)) P):=by
 go_enter Tryz.func99,Tryz.ntmps99
 go_wp2_with fail;refine (rfInX v 1 255 _ rfl _).mono ?_;rintro e w' ⟨rfl,rfl⟩;go_wp2_with fail;go_ret;exact ⟨retB (by rw [Bool.eq_iff_iff];simp [win,shp]),own_left⟩
theorem rfThird8 (a b v:Nat) (cy co:Int) (w0 w:World) (P:HP) [hs:Sat w0 w P]:Calls Tryz.prog 99 #[evA 8 a b v cy co] w (RetV w0 (.bool (win v (shp 8).2.2)) P):=by
 go_enter Tryz.func99,Tryz.ntmps99
 go_wp2_with fail;go_ret;exact ⟨rfl,own_left⟩
theorem rfThird9 (a b v:Nat) (cy co:Int) (w0 w:World) (P:HP) [hs:Sat w0 w P]:Calls Tryz.prog 99 #[evA 9 a b v cy co] w (RetV w0 (.bool (win v (shp 9).2.2)) P):=by
 go_enter Tryz.func99,Tryz.ntmps99
 go_wp2_with fail;go_ret;exact ⟨retB (by rw [Bool.eq_iff_iff];simp [win,shp]),own_left⟩
theorem rfThird10 (a b v:Nat) (cy co:Int) (w0 w:World) (P:HP) [hs:Sat w0 w P]:Calls Tryz.prog 99 #[evA 10 a b v cy co] w (RetV w0 (.bool (win v (shp 10).2.2)) P):=by
 go_enter Tryz.func99,Tryz.ntmps99
 go_wp2_with fail;go_ret;exact ⟨retB (by rw [Bool.eq_iff_iff];simp [win,shp]),own_left⟩
theorem rfThird11 (a b v:Nat) (cy co:Int) (w0 w:World) (P:HP) [hs:Sat w0 w P]:Calls Tryz.prog 99 #[evA 11 a b v cy co] w (RetV w0 (.bool (win v (shp 11).2.2)) P):=by
 go_enter Tryz.func99,Tryz.ntmps99
 go_wp2_with fail;go_ret;exact ⟨retB (by rw [Bool.eq_iff_iff];simp [win,shp]),own_left⟩
theorem rfThird12 (a b v:Nat) (cy co:Int) (w0 w:World) (P:HP) [hs:Sat w0 w P]:Calls Tryz.prog 99 #[evA 12 a b v cy co] w (RetV w0 (.bool (win v (shp 12).2.2)) P):=by
 go_enter Tryz.func99,Tryz.ntmps99
 go_wp2_with fail;go_ret;exact ⟨retB (by rw [Bool.eq_iff_iff];simp [win,shp]),own_left⟩
theorem rfThird13 (a b v:Nat) (cy co:Int) (w0 w:World) (P:HP) [hs:Sat w0 w P]:Calls Tryz.prog 99 #[evA 13 a b v cy co] w (RetV w0 (.bool (win v (shp 13).2.2)) P):=by
 go_enter Tryz.func99,Tryz.ntmps99
 go_wp2_with fail;go_ret;exact ⟨retB (by rw [Bool.eq_iff_iff];simp [win,shp]),own_left⟩
theorem rfThird14 (a b v:Nat) (cy co:Int) (w0 w:World) (P:HP) [hs:Sat w0 w P]:Calls Tryz.prog 99 #[evA 14 a b v cy co] w (RetV w0 (.bool (win v (shp 14).2.2)) P):=by
 go_enter Tryz.func99,Tryz.ntmps99
 go_wp2_with fail;refine (rfInX v 0 255 _ rfl _).mono ?_;rintro e w' ⟨rfl,rfl⟩;go_wp2_with fail;go_ret;exact ⟨retB (by rw [Bool.eq_iff_iff];simp [win,shp]),own_left⟩
theorem rfThird15 (a b v:Nat) (cy co:Int) (w0 w:World) (P:HP) [hs:Sat w0 w P]:Calls Tryz.prog 99 #[evA 15 a b v cy co] w (RetV w0 (.bool (win v (shp 15).2.2)) P):=by
 go_enter Tryz.func99,Tryz.ntmps99
 go_wp2_with fail;refine (rfInX v 0 255 _ rfl _).mono ?_;rintro e w' ⟨rfl,rfl⟩;go_wp2_with fail;go_ret;exact ⟨retB (by rw [Bool.eq_iff_iff];simp [win,shp]),own_left⟩
theorem rfThird16 (a b v:Nat) (cy co:Int) (w0 w:World) (P:HP) [hs:Sat w0 w P]:Calls Tryz.prog 99 #[evA 16 a b v cy co] w (RetV w0 (.bool (win v (shp 16).2.2)) P):=by
 go_enter Tryz.func99,Tryz.ntmps99
 go_wp2_with fail;go_ret;exact ⟨rfl,own_left⟩
theorem rfThird17 (a b v:Nat) (cy co:Int) (w0 w:World) (P:HP) [hs:Sat w0 w P]:Calls Tryz.prog 99 #[evA 17 a b v cy co] w (RetV w0 (.bool (win v (shp 17).2.2)) P):=by
 go_enter Tryz.func99,Tryz.ntmps99
 go_wp2_with fail;go_ret;exact ⟨rfl,own_left⟩
theorem rfThird18 (a b v:Nat) (cy co:Int) (w0 w:World) (P:HP) [hs:Sat w0 w P]:Calls Tryz.prog 99 #[evA 18 a b v cy co] w (RetV w0 (.bool (win v (shp 18).2.2)) P):=by
 go_enter Tryz.func99,Tryz.ntmps99
 go_wp2_with fail;go_ret;exact ⟨retB (by rw [Bool.eq_iff_iff];simp [win,shp]),own_left⟩
theorem rfThird19 (a b v:Nat) (cy co:Int) (w0 w:World) (P:HP) [hs:Sat w0 w P]:Calls Tryz.prog 99 #[evA 19 a b v cy co] w (RetV w0 (.bool (win v (shp 19).2.2)) P):=by
 go_enter Tryz.func99,Tryz.ntmps99
 go_wp2_with fail;go_ret;exact ⟨rfl,own_left⟩
theorem rfThird20 (a b v:Nat) (cy co:Int) (w0 w:World) (P:HP) [hs:Sat w0 w P]:Calls Tryz.prog 99 #[evA 20 a b v cy co] w (RetV w0 (.bool (win v (shp 20).2.2)) P):=by
 go_enter Tryz.func99,Tryz.ntmps99
 go_wp2_with fail;go_ret;exact ⟨rfl,own_left⟩
theorem rfThird21 (a b v:Nat) (cy co:Int) (w0 w:World) (P:HP) [hs:Sat w0 w P]:Calls Tryz.prog 99 #[evA 21 a b v cy co] w (RetV w0 (.bool (win v (shp 21).2.2)) P):=by
 go_enter Tryz.func99,Tryz.ntmps99
 go_wp2_with fail;go_ret;exact ⟨retB (by rw [Bool.eq_iff_iff];simp [win,shp]),own_left⟩
theorem rfThird22 (a b v:Nat) (cy co:Int) (w0 w:World) (P:HP) [hs:Sat w0 w P]:Calls Tryz.prog 99 #[evA 22 a b v cy co] w (RetV w0 (.bool (win v (shp 22).2.2)) P):=by
 go_enter Tryz.func99,Tryz.ntmps99
 go_wp2_with fail;go_ret;exact ⟨retB (by rw [Bool.eq_iff_iff];simp [win,shp]),own_left⟩
theorem rfThird23 (a b v:Nat) (cy co:Int) (w0 w:World) (P:HP) [hs:Sat w0 w P]:Calls Tryz.prog 99 #[evA 23 a b v cy co] w (RetV w0 (.bool (win v (shp 23).2.2)) P):=by
 go_enter Tryz.func99,Tryz.ntmps99
 go_wp2_with fail;refine (rfInX v 0 38 _ rfl _).mono ?_;rintro e w' ⟨rfl,rfl⟩;go_wp2_with fail;go_ret;exact ⟨retB (by rw [Bool.eq_iff_iff];simp [win,shp]),own_left⟩
theorem rfThird24 (a b v:Nat) (cy co:Int) (w0 w:World) (P:HP) [hs:Sat w0 w P]:Calls Tryz.prog 99 #[evA 24 a b v cy co] w (RetV w0 (.bool (win v (shp 24).2.2)) P):=by
 go_enter Tryz.func99,Tryz.ntmps99
 go_wp2_with fail;go_ret;exact ⟨retB (by rw [Bool.eq_iff_iff];simp [win,shp]),own_left⟩
theorem rfThird (k a b v:Nat) (hk:1≤k∧k≤24) (cy co:Int) (w0 w:World) (P:HP) [hs:Sat w0 w P]:Calls Tryz.prog 99 #[evA k a b v cy co] w (RetV w0 (.bool (win v (shp k).2.2)) P):=by
 have h:k=1∨k=2∨k=3∨k=4∨k=5∨k=6∨k=7∨k=8∨k=9∨k=10∨k=11∨k=12∨k=13∨k=14∨k=15∨k=16∨k=17∨k=18∨k=19∨k=20∨k=21∨k=22∨k=23∨k=24:=by omega
 rcases h with rfl | rfl | rfl | rfl | rfl | rfl | rfl | rfl | rfl | rfl | rfl | rfl | rfl | rfl | rfl | rfl | rfl | rfl | rfl | rfl | rfl | rfl | rfl | rfl
 ·exact rfThird1 a b v cy co w0 w P
 ·exact rfThird2 a b v cy co w0 w P
 ·exact rfThird3 a b v cy co w0 w P
 ·exact rfThird4 a b v cy co w0 w P
 ·exact rfThird5 a b v cy co w0 w P
 ·exact rfThird6 a b v cy co w0 w P
 ·exact rfThird7 a b v cy co w0 w P
 ·exact rfThird8 a b v cy co w0 w P
 ·exact rfThird9 a b v cy co w0 w P
 ·exact rfThird10 a b v cy co w0 w P
 ·exact rfThird11 a b v cy co w0 w P
 ·exact rfThird12 a b v cy co w0 w P
 ·exact rfThird13 a b v cy co w0 w P
 ·exact rfThird14 a b v cy co w0 w P
 ·exact rfThird15 a b v cy co w0 w P
 ·exact rfThird16 a b v cy co w0 w P
 ·exact rfThird17 a b v cy co w0 w P
 ·exact rfThird18 a b v cy co w0 w P
 ·exact rfThird19 a b v cy co w0 w P
 ·exact rfThird20 a b v cy co w0 w P
 ·exact rfThird21 a b v cy co w0 w P
 ·exact rfThird22 a b v cy co w0 w P
 ·exact rfThird23 a b v cy co w0 w P
 ·exact rfThird24 a b v cy co w0 w P
theorem rfSecond5 (a b v:Nat) (cy co:Int) (w0 w:World) (P:HP) [hs:Sat w0 w P]:Calls Tryz.prog 98 #[evA 5 a b v cy co] w (RetV w0 (.bool (win b (shp 5).2.1 && !(decide (5=5) && decide (a=b)))) P):=by
 have hq5:(win b (shp 5).2.1 && !(decide (5=5) && decide (a=b)))=(win b 8 && !decide (a=b)):=by simp [shp]
 rw [hq5];have Hq:Hid (win b 8=decide (b<64∨b=255)):=rfl
 by_cases ha:a=b
 ·subst ha;rw [show decide (a=a)=true by simp]
  by_cases h1:a<64
  ·have h2:decide (0≤a∧a≤63)=true:=by simp;omega
   go_enter Tryz.func98,Tryz.ntmps98
   go_wp2_with fail;refine (rfInX a 0 63 _ h2 _).mono ?_;rintro e w' ⟨rfl,rfl⟩;go_wp2_with fail;go_ret;exact ⟨retB (by simp),own_left⟩
  ·have h2:decide (0≤a∧a≤63)=false:=by simp;omega
   by_cases h3:a=255
   ·have h4:((a:Int)==255)=true:=by simp [h3]
    have H3:=hid h3;clear h3
    go_enter Tryz.func98,Tryz.ntmps98
    go_wp2_with fail;refine (rfInX a 0 63 _ h2 _).mono ?_;rintro e w' ⟨rfl,rfl⟩;go_wp2_with fail;go_ret;exact ⟨retB (by simp),own_left⟩
   ·have h4:((a:Int)==255)=false:=by simp;omega
    go_enter Tryz.func98,Tryz.ntmps98
    go_wp2_with fail;refine (rfInX a 0 63 _ h2 _).mono ?_;rintro e w' ⟨rfl,rfl⟩;go_wp2_with fail;go_ret;exact ⟨retB (by simp),own_left⟩
 ·have hne:((b:Int) != (a:Int))=true:=by simp;omega
  rw [show decide (a=b)=false by simp [ha]]
  by_cases h1:b<64
  ·have h2:decide (0≤b∧b≤63)=true:=by simp;omega
   go_enter Tryz.func98,Tryz.ntmps98
   go_wp2_with fail;refine (rfInX b 0 63 _ h2 _).mono ?_;rintro e w' ⟨rfl,rfl⟩;go_wp2_with fail;go_ret;exact ⟨retB (by rw [Hq.out];simp [h1]),own_left⟩
  ·have h2:decide (0≤b∧b≤63)=false:=by simp;omega
   by_cases h3:b=255
   ·have h4:((b:Int)==255)=true:=by simp [h3]
    have H3:=hid h3;clear h3
    go_enter Tryz.func98,Tryz.ntmps98
    go_wp2_with fail;refine (rfInX b 0 63 _ h2 _).mono ?_;rintro e w' ⟨rfl,rfl⟩;go_wp2_with fail;go_ret;exact ⟨retB (by rw [Hq.out];simp [H3.out]),own_left⟩
   ·have h4:((b:Int)==255)=false:=by simp;omega
    go_enter Tryz.func98,Tryz.ntmps98
    go_wp2_with fail;refine (rfInX b 0 63 _ h2 _).mono ?_;rintro e w' ⟨rfl,rfl⟩;go_wp2_with fail;go_ret;exact ⟨retB (by rw [Hq.out];simp [h1,h3]),own_left⟩
theorem rfSecond1 (a b v:Nat) (cy co:Int) (w0 w:World) (P:HP) [hs:Sat w0 w P]:Calls Tryz.prog 98 #[evA 1 a b v cy co] w (RetV w0 (.bool (win b (shp 1).2.1 && !(decide (1=5) && decide (a=b)))) P):=by
 go_enter Tryz.func98,Tryz.ntmps98
 go_wp2_with fail;refine (rfInX b 0 1 _ rfl _).mono ?_;rintro e w' ⟨rfl,rfl⟩;go_wp2_with fail;go_ret;exact ⟨retB (by rw [Bool.eq_iff_iff];simp [win,shp]),own_left⟩
theorem rfSecond2 (a b v:Nat) (cy co:Int) (w0 w:World) (P:HP) [hs:Sat w0 w P]:Calls Tryz.prog 98 #[evA 2 a b v cy co] w (RetV w0 (.bool (win b (shp 2).2.1 && !(decide (2=5) && decide (a=b)))) P):=by
 go_enter Tryz.func98,Tryz.ntmps98
 go_wp2_with fail;refine (rfInX b 0 79 _ rfl _).mono ?_;rintro e w' ⟨rfl,rfl⟩;go_wp2_with fail;go_ret;exact ⟨retB (by rw [Bool.eq_iff_iff];simp [win,shp]),own_left⟩
theorem rfSecond3 (a b v:Nat) (cy co:Int) (w0 w:World) (P:HP) [hs:Sat w0 w P]:Calls Tryz.prog 98 #[evA 3 a b v cy co] w (RetV w0 (.bool (win b (shp 3).2.1 && !(decide (3=5) && decide (a=b)))) P):=by
 go_enter Tryz.func98,Tryz.ntmps98
 go_wp2_with fail;go_ret;exact ⟨retB (by rw [Bool.eq_iff_iff];simp [win,shp]),own_left⟩
theorem rfSecond4 (a b v:Nat) (cy co:Int) (w0 w:World) (P:HP) [hs:Sat w0 w P]:Calls Tryz.prog 98 #[evA 4 a b v cy co] w (RetV w0 (.bool (win b (shp 4).2.1 && !(decide (4=5) && decide (a=b)))) P):=by
 go_enter Tryz.func98,Tryz.ntmps98
 go_wp2_with fail;go_ret;exact ⟨retB (by rw [Bool.eq_iff_iff];simp [win,shp]),own_left⟩
theorem rfSecond6 (a b v:Nat) (cy co:Int) (w0 w:World) (P:HP) [hs:Sat w0 w P]:Calls Tryz.prog 98 #[evA 6 a b v cy co] w (RetV w0 (.bool (win b (shp 6).2.1 && !(decide (6=5) && decide (a=b)))) P):=by
 go_enter Tryz.func98,Tryz.ntmps98
 go_wp2_with fail;go_ret;exact ⟨retB (by rw [Bool.eq_iff_iff];simp [win,shp]),own_left⟩
theorem rfSecond7 (a b v:Nat) (cy co:Int) (w0 w:World) (P:HP) [hs:Sat w0 w P]:Calls Tryz.prog 98 #[evA 7 a b v cy co] w (RetV w0 (.bool (win b (shp 7).2.1 && !(decide (7=5) && decide (a=b)))) P):=by
 go_enter Tryz.func98,Tryz.ntmps98
 go_wp2_with fail;go_ret;exact ⟨retB (by rw [Bool.eq_iff_iff];simp [win,shp]),own_left⟩
theorem rfSecond8 (a b v:Nat) (cy co:Int) (w0 w:World) (P:HP) [hs:Sat w0 w P]:Calls Tryz.prog 98 #[evA 8 a b v cy co] w (RetV w0 (.bool (win b (shp 8).2.1 && !(decide (8=5) && decide (a=b)))) P):=by
 go_enter Tryz.func98,Tryz.ntmps98
 go_wp2_with fail;go_ret;exact ⟨retB (by rw [Bool.eq_iff_iff];simp [win,shp]),own_left⟩
theorem rfSecond9 (a b v:Nat) (cy co:Int) (w0 w:World) (P:HP) [hs:Sat w0 w P]:Calls Tryz.prog 98 #[evA 9 a b v cy co] w (RetV w0 (.bool (win b (shp 9).2.1 && !(decide (9=5) && decide (a=b)))) P):=by
 by_cases hq:b=0
 ·have e0:((b:Int)==0)=true:=by simp [hq]
  go_enter Tryz.func98,Tryz.ntmps98
  go_wp2_with fail;go_ret;exact ⟨retB (by rw [Bool.eq_iff_iff];simp [win,shp,hq]),own_left⟩
 ·have e0:((b:Int)==0)=false:=by simp;omega
  go_enter Tryz.func98,Tryz.ntmps98
  go_wp2_with fail;refine (rfInX b 32 159 _ rfl _).mono ?_;rintro e w' ⟨rfl,rfl⟩;go_wp2_with fail;go_ret;exact ⟨retB (by rw [Bool.eq_iff_iff];simp [win,shp,hq];omega),own_left⟩
theorem rfSecond10 (a b v:Nat) (cy co:Int) (w0 w:World) (P:HP) [hs:Sat w0 w P]:Calls Tryz.prog 98 #[evA 10 a b v cy co] w (RetV w0 (.bool (win b (shp 10).2.1 && !(decide (10=5) && decide (a=b)))) P):=by
 go_enter Tryz.func98,Tryz.ntmps98
 go_wp2_with fail;refine (rfInX b 0 1 _ rfl _).mono ?_;rintro e w' ⟨rfl,rfl⟩;go_wp2_with fail;go_ret;exact ⟨retB (by rw [Bool.eq_iff_iff];simp [win,shp]),own_left⟩
theorem rfSecond11 (a b v:Nat) (cy co:Int) (w0 w:World) (P:HP) [hs:Sat w0 w P]:Calls Tryz.prog 98 #[evA 11 a b v cy co] w (RetV w0 (.bool (win b (shp 11).2.1 && !(decide (11=5) && decide (a=b)))) P):=by
 go_enter Tryz.func98,Tryz.ntmps98
 go_wp2_with fail;refine (rfInX b 0 31 _ rfl _).mono ?_;rintro e w' ⟨rfl,rfl⟩;go_wp2_with fail;go_ret;exact ⟨retB (by rw [Bool.eq_iff_iff];simp [win,shp]),own_left⟩
theorem rfSecond12 (a b v:Nat) (cy co:Int) (w0 w:World) (P:HP) [hs:Sat w0 w P]:Calls Tryz.prog 98 #[evA 12 a b v cy co] w (RetV w0 (.bool (win b (shp 12).2.1 && !(decide (12=5) && decide (a=b)))) P):=by
 go_enter Tryz.func98,Tryz.ntmps98
 go_wp2_with fail;refine (rfInX b 0 31 _ rfl _).mono ?_;rintro e w' ⟨rfl,rfl⟩;go_wp2_with fail;go_ret;exact ⟨retB (by rw [Bool.eq_iff_iff];simp [win,shp]),own_left⟩
theorem rfSecond13 (a b v:Nat) (cy co:Int) (w0 w:World) (P:HP) [hs:Sat w0 w P]:Calls Tryz.prog 98 #[evA 13 a b v cy co] w (RetV w0 (.bool (win b (shp 13).2.1 && !(decide (13=5) && decide (a=b)))) P):=by
 go_enter Tryz.func98,Tryz.ntmps98
 go_wp2_with fail;refine (rfInX b 0 31 _ rfl _).mono ?_;rintro e w' ⟨rfl,rfl⟩;go_wp2_with fail;go_ret;exact ⟨retB (by rw [Bool.eq_iff_iff];simp [win,shp]),own_left⟩
theorem rfSecond14 (a b v:Nat) (cy co:Int) (w0 w:World) (P:HP) [hs:Sat w0 w P]:Calls Tryz.prog 98 #[evA 14 a b v cy co] w (RetV w0 (.bool (win b (shp 14).2.1 && !(decide (14=5) && decide (a=b)))) P):=by
 go_enter Tryz.func98,Tryz.ntmps98
 go_wp2_with fail;refine (rfInX b 0 31 _ rfl _).mono ?_;rintro e w' ⟨rfl,rfl⟩;go_wp2_with fail;go_ret;exact ⟨retB (by rw [Bool.eq_iff_iff];simp [win,shp]),own_left⟩
theorem rfSecond15 (a b v:Nat) (cy co:Int) (w0 w:World) (P:HP) [hs:Sat w0 w P]:Calls Tryz.prog 98 #[evA 15 a b v cy co] w (RetV w0 (.bool (win b (shp 15).2.1 && !(decide (15=5) && decide (a=b)))) P):=by
 go_enter Tryz.func98,Tryz.ntmps98
 go_wp2_with fail;refine (rfInX b 0 31 _ rfl _).mono ?_;rintro e w' ⟨rfl,rfl⟩;go_wp2_with fail;go_ret;exact ⟨retB (by rw [Bool.eq_iff_iff];simp [win,shp]),own_left⟩
theorem rfSecond16 (a b v:Nat) (cy co:Int) (w0 w:World) (P:HP) [hs:Sat w0 w P]:Calls Tryz.prog 98 #[evA 16 a b v cy co] w (RetV w0 (.bool (win b (shp 16).2.1 && !(decide (16=5) && decide (a=b)))) P):=by
 go_enter Tryz.func98,Tryz.ntmps98
 go_wp2_with fail;refine (rfInX b 0 31 _ rfl _).mono ?_;rintro e w' ⟨rfl,rfl⟩;go_wp2_with fail;go_ret;exact ⟨retB (by rw [Bool.eq_iff_iff];simp [win,shp]),own_left⟩
theorem rfSecond17 (a b v:Nat) (cy co:Int) (w0 w:World) (P:HP) [hs:Sat w0 w P]:Calls Tryz.prog 98 #[evA 17 a b v cy co] w (RetV w0 (.bool (win b (shp 17).2.1 && !(decide (17=5) && decide (a=b)))) P):=by
 go_enter Tryz.func98,Tryz.ntmps98
 go_wp2_with fail;refine (rfInX b 0 31 _ rfl _).mono ?_;rintro e w' ⟨rfl,rfl⟩;go_wp2_with fail;go_ret;exact ⟨retB (by rw [Bool.eq_iff_iff];simp [win,shp]),own_left⟩
theorem rfSecond18 (a b v:Nat) (cy co:Int) (w0 w:World) (P:HP) [hs:Sat w0 w P]:Calls Tryz.prog 98 #[evA 18 a b v cy co] w (RetV w0 (.bool (win b (shp 18).2.1 && !(decide (18=5) && decide (a=b)))) P):=by
 go_enter Tryz.func98,Tryz.ntmps98
 go_wp2_with fail;go_ret;exact ⟨retB (by rw [Bool.eq_iff_iff];simp [win,shp]),own_left⟩
theorem rfSecond19 (a b v:Nat) (cy co:Int) (w0 w:World) (P:HP) [hs:Sat w0 w P]:Calls Tryz.prog 98 #[evA 19 a b v cy co] w (RetV w0 (.bool (win b (shp 19).2.1 && !(decide (19=5) && decide (a=b)))) P):=by
 go_enter Tryz.func98,Tryz.ntmps98
 go_wp2_with fail;refine (rfInX b 0 31 _ rfl _).mono ?_;rintro e w' ⟨rfl,rfl⟩;go_wp2_with fail;go_ret;exact ⟨retB (by rw [Bool.eq_iff_iff];simp [win,shp]),own_left⟩
theorem rfSecond20 (a b v:Nat) (cy co:Int) (w0 w:World) (P:HP) [hs:Sat w0 w P]:Calls Tryz.prog 98 #[evA 20 a b v cy co] w (RetV w0 (.bool (win b (shp 20).2.1 && !(decide (20=5) && decide (a=b)))) P):=by
 go_enter Tryz.func98,Tryz.ntmps98
 go_wp2_with fail;refine (rfInX b 0 79 _ rfl _).mono ?_;rintro e w' ⟨rfl,rfl⟩;go_wp2_with fail;go_ret;exact ⟨retB (by rw [Bool.eq_iff_iff];simp [win,shp]),own_left⟩
theorem rfSecond21 (a b v:Nat) (cy co:Int) (w0 w:World) (P:HP) [hs:Sat w0 w P]:Calls Tryz.prog 98 #[evA 21 a b v cy co] w (RetV w0 (.bool (win b (shp 21).2.1 && !(decide (21=5) && decide (a=b)))) P):=by
 go_enter Tryz.func98,Tryz.ntmps98
 go_wp2_with fail;refine (rfInX b 0 16 _ rfl _).mono ?_;rintro e w' ⟨rfl,rfl⟩;go_wp2_with fail;go_ret;exact ⟨retB (by rw [Bool.eq_iff_iff];simp [win,shp]),own_left⟩
theorem rfSecond22 (a b v:Nat) (cy co:Int) (w0 w:World) (P:HP) [hs:Sat w0 w P]:Calls Tryz.prog 98 #[evA 22 a b v cy co] w (RetV w0 (.bool (win b (shp 22).2.1 && !(decide (22=5) && decide (a=b)))) P):=by
 go_enter Tryz.func98,Tryz.ntmps98
 go_wp2_with fail;go_ret;exact ⟨retB (by rw [Bool.eq_iff_iff];simp [win,shp]),own_left⟩
theorem rfSecond23 (a b v:Nat) (cy co:Int) (w0 w:World) (P:HP) [hs:Sat w0 w P]:Calls Tryz.prog 98 #[evA 23 a b v cy co] w (RetV w0 (.bool (win b (shp 23).2.1 && !(decide (23=5) && decide (a=b)))) P):=by
 go_enter Tryz.func98,Tryz.ntmps98
 go_wp2_with fail;refine (rfInX b 0 16 _ rfl _).mono ?_;rintro e w' ⟨rfl,rfl⟩;go_wp2_with fail;go_ret;exact ⟨retB (by rw [Bool.eq_iff_iff];simp [win,shp]),own_left⟩
theorem rfSecond24 (a b v:Nat) (cy co:Int) (w0 w:World) (P:HP) [hs:Sat w0 w P]:Calls Tryz.prog 98 #[evA 24 a b v cy co] w (RetV w0 (.bool (win b (shp 24).2.1 && !(decide (24=5) && decide (a=b)))) P):=by
 go_enter Tryz.func98,Tryz.ntmps98
 go_wp2_with fail;go_ret;exact ⟨retB (by rw [Bool.eq_iff_iff];simp [win,shp]),own_left⟩
theorem rfSecond (k a b v:Nat) (hk:1≤k∧k≤24) (cy co:Int) (w0 w:World) (P:HP) [hs:Sat w0 w P]:Calls Tryz.prog 98 #[evA k a b v cy co] w (RetV w0 (.bool (win b (shp k).2.1 && !(decide (k=5) && decide (a=b)))) P):=by
 have h:k=1∨k=2∨k=3∨k=4∨k=5∨k=6∨k=7∨k=8∨k=9∨k=10∨k=11∨k=12∨k=13∨k=14∨k=15∨k=16∨k=17∨k=18∨k=19∨k=20∨k=21∨k=22∨k=23∨k=24:=by omega
 rcases h with rfl | rfl | rfl | rfl | rfl | rfl | rfl | rfl | rfl | rfl | rfl | rfl | rfl | rfl | rfl | rfl | rfl | rfl | rfl | rfl | rfl | rfl | rfl | rfl
 ·exact rfSecond1 a b v cy co w0 w P
 ·exact rfSecond2 a b v cy co w0 w P
 ·exact rfSecond3 a b v cy co w0 w P
 ·exact rfSecond4 a b v cy co w0 w P
 ·exact rfSecond5 a b v cy co w0 w P
 ·exact rfSecond6 a b v cy co w0 w P
 ·exact rfSecond7 a b v cy co w0 w P
 ·exact rfSecond8 a b v cy co w0 w P
 ·exact rfSecond9 a b v cy co w0 w P
 ·exact rfSecond10 a b v cy co w0 w P
 ·exact rfSecond11 a b v cy co w0 w P
 ·exact rfSecond12 a b v cy co w0 w P
 ·exact rfSecond13 a b v cy co w0 w P
 ·exact rfSecond14 a b v cy co w0 w P
 ·exact rfSecond15 a b v cy co w0 w P
 ·exact rfSecond16 a b v cy co w0 w P
 ·exact rfSecond17 a b v cy co w0 w P
 ·exact rfSecond18 a b v cy co w0 w P
 ·exact rfSecond19 a b v cy co w0 w P
 ·exact rfSecond20 a b v cy co w0 w P
 ·exact rfSecond21 a b v cy co w0 w P
 ·exact rfSecond22 a b v cy co w0 w P
 ·exact rfSecond23 a b v cy co w0 w P
 ·exact rfSecond24 a b v cy co w0 w P
theorem rfCheck (k:Int) (cy co:Int) (a b v:Nat) (w0 w:World) (P:HP) [hs:Sat w0 w P] :
    Calls Tryz.prog 62 #[.agg #[.int .i64 k, .int .u64 cy, .int .u64 co, .int .u32 a, .int .u32 b, .int .u32 v]] w fun e w' => ∃ n:Int, e=.returned (.int .i64 n)∧(n=0↔okE ⟨k, cy, co, a, b, v⟩=true)∧Sat w0 w' P := by
  by_cases hk:1≤k∧k≤24
  · obtain ⟨n, rfl⟩ := Int.eq_ofNat_of_zero_le (show 0≤k by omega)
    have hn:1≤n∧n≤24 := by omega
    have hd:decide (1≤(n:Int)∧(n:Int)≤24)=true := by simp; omega
    have g1:decide ((n:Int)<1)=false := by simp; omega
    have g2:decide ((24:Int)<(n:Int))=false := by simp; omega
    have Hok:Hid (okE ⟨n, cy, co, a, b, v⟩=(win a (shp n).1 && (win b (shp n).2.1 && !(decide (n=5) && decide (a=b))) && win v (shp n).2.2)) := by
      unfold Hid okE;rw [hd];show okN n a b v=_;unfold okN;rw [Bool.eq_iff_iff]; simp only [Bool.and_eq_true]; constructor
      · rintro ⟨⟨⟨h1, h2⟩, h3⟩, h4⟩; exact ⟨⟨h1, h2, h4⟩, h3⟩
      · rintro ⟨⟨h1, h2, h4⟩, h3⟩; exact ⟨⟨⟨h1, h2⟩, h3⟩, h4⟩
    generalize h1:win a (shp n).1=x1 at *;generalize h2:(win b (shp n).2.1 && !(decide (n=5) && decide (a=b)))=x2 at *;generalize h3:win v (shp n).2.2=x3 at *;have H1 := hid h1;have H2 := hid h2;have H3 := hid h3;clear h1 h2 h3 hd
    cases x1
    · go_enter Tryz.func62, Tryz.ntmps62
      go_wp2_with fail;refine (rfFirst n a b v hn cy co w0 _ _).mono ?_;rintro e w1 ⟨rfl, hs1⟩;rw [H1.out];go_wp2_with fail;go_ret;exact ⟨_, rfl, by rw [Hok.out]; simp, own_left⟩
    · cases x2
      · go_enter Tryz.func62, Tryz.ntmps62
        go_wp2_with fail;refine (rfFirst n a b v hn cy co w0 _ _).mono ?_;rintro e w1 ⟨rfl, hs1⟩;rw [H1.out];go_wp2_with fail;refine (rfSecond n a b v hn cy co w0 _ _).mono ?_;rintro e w2 ⟨rfl, hs2⟩;rw [H2.out];go_wp2_with fail;go_ret;exact ⟨_, rfl, by rw [Hok.out]; simp, own_left⟩
      · cases x3
        all_goals
          go_enter Tryz.func62, Tryz.ntmps62
          go_wp2_with fail;refine (rfFirst n a b v hn cy co w0 _ _).mono ?_;rintro e w1 ⟨rfl, hs1⟩;rw [H1.out];go_wp2_with fail;refine (rfSecond n a b v hn cy co w0 _ _).mono ?_;rintro e w2 ⟨rfl, hs2⟩;rw [H2.out];go_wp2_with fail;refine (rfThird n a b v hn cy co w0 _ _).mono ?_;rintro e w3 ⟨rfl, hs3⟩;rw [H3.out];go_wp2_with fail;go_ret;exact ⟨_, rfl, by rw [Hok.out]; simp, own_left⟩
  · have hd:decide (1≤k∧k≤24)=false := by simp; omega
    by_cases h:k<1
    all_goals
      first | (have g1:decide (k<1)=true := by simp [h])
            | (have g1:decide (k<1)=false := by simp [h])
      try have g2:decide ((24:Int)<k)=true := by simp; omega
      go_enter Tryz.func62, Tryz.ntmps62
      go_wp2_with fail;go_ret;refine ⟨_, rfl, ?_, own_left⟩;simp [okE]; omega
theorem bneD2 (x y:Int):(x-1 != y)=decide (x≠y+1):=by rw [Bool.eq_iff_iff];simp;omega
theorem rfActs80 (b:Nat) (w:World) :
  Calls Tryz.prog 100 #[.pointer (some ⟨b,0,none⟩),.int .i64 80] w fun e w'=>e=.returned (.bool false)∧w=w':=by
 go_enter Tryz.func100,Tryz.ntmps100
 go_wp2;go_ret;exact ⟨rfl,rfl⟩
theorem rfPosts (b:Nat) (A:Au) (x:Nat) (w0 w:World) (F:HP) (hs:Sat w0 w (rfP b A*F)) (hA:AOk A) (hx:x≤80) :
  Calls Tryz.prog 101 #[.pointer (some ⟨b,0,none⟩),.int .i64 x] w fun e w'=>e=.returned (.bool (acts A x))∧w=w':=by
 have hs0:=hs
 by_cases h:x<80
 ·have d1:((x:Int)==80)=false:=by simp;omega
  generalize hy:acts A x=y;have Hy:=hid hy;clear hy
  cases y
  all_goals
   go_enter Tryz.func101,Tryz.ntmps101
   go_wp2_with fail;refine (rfActsX b A x _ Hy.out w0 _ F hs0 hA h).mono ?_;rintro e w' ⟨rfl,rfl⟩;go_wp2_with fail;go_ret;exact ⟨rfl,rfl⟩
 ·obtain rfl:x=80:=by omega
  obtain ⟨g,off,cap,c1,c2,hs⟩:=rfP_out hA hs
  go_enter Tryz.func101,Tryz.ntmps101
  go_wp2_with fail;refine (rfActs80 b _).mono ?_;rintro e w' ⟨rfl,rfl⟩;go_wp2_with fail;go_ret;exact ⟨retB (by unfold acts;rw [if_neg (by decide),if_neg (by decide),Bool.eq_iff_iff];simp),rfl⟩
theorem rfRule1 (pb:Nat) (A:Au) (a b v:Nat) (had:Bool) (cy co:Int) (w0 w:World) (F:HP) (hs:Sat w0 w (rfP pb A*F)) (hA:AOk A) (hok:okN 1 a b v=true) (hv:v<4294967296) :
  Calls Tryz.prog 63 #[.pointer (some ⟨pb,0,none⟩),evA 1 a b v cy co,.bool had] w (RetV w0 (.bool (rule A 1 a b v had)) (rfP pb A*F)):=by
 have ha:a<16:=by simp [okN,shp,win] at hok;omega
 have i1:(a:Int)<16:=by omega
 have i2:decide (a<16)=true:=by simp;omega
 haveI:Lt a A.pn.length:=⟨by rw [hA.lp];omega⟩;have hb:b<2:=by simp [okN,shp,win] at hok;omega
 obtain ⟨g,off,cap,c1,c2,hs⟩:=rfP_out hA hs
 go_enter Tryz.func63,Tryz.ntmps63
 go_wp2_with fail;go_quiet (fail);go_wp2_with fail;go_ret;exact ⟨retB (by rw [show rule A 1 a b v had=(A.pn.getD a false==decide (b=1)) from rfl,show decide (b=1)=((b:Int)==1) by rw [Bool.eq_iff_iff];simp;omega,Bool.beq_comm];simp),rfP_of (v:=.slice (some ⟨g,off,none⟩) 64 cap) own_left⟩
theorem rfRule2 (pb:Nat) (A:Au) (a b v:Nat) (had:Bool) (cy co:Int) (w0 w:World) (F:HP) (hs:Sat w0 w (rfP pb A*F)) (hA:AOk A) (hok:okN 2 a b v=true) (hv:v<4294967296) :
  Calls Tryz.prog 63 #[.pointer (some ⟨pb,0,none⟩),evA 2 a b v cy co,.bool had] w (RetV w0 (.bool (rule A 2 a b v had)) (rfP pb A*F)):=by
 have hb:b<80:=by simp [okN,shp,win] at hok;omega
 have ha:a<16:=by simp [okN,shp,win] at hok;omega
 obtain ⟨g,off,cap,c1,c2,hs⟩:=rfP_out hA hs
 go_enter Tryz.func63,Tryz.ntmps63
 go_wp2_with fail;go_quiet (fail);go_wp2_with fail;refine (rfActs pb A b w0 _ any (rfP_of (v:=.slice (some ⟨g,off,none⟩) 64 cap) own_left) hA (by omega)).mono ?_;rintro e w' ⟨rfl,rfl⟩;go_wp2_with fail;go_ret;exact ⟨retB (rfl),rfP_of (v:=.slice (some ⟨g,off,none⟩) 64 cap) own_left⟩
theorem rfRule20 (pb:Nat) (A:Au) (a b v:Nat) (had:Bool) (cy co:Int) (w0 w:World) (F:HP) (hs:Sat w0 w (rfP pb A*F)) (hA:AOk A) (hok:okN 20 a b v=true) (hv:v<4294967296) :
  Calls Tryz.prog 63 #[.pointer (some ⟨pb,0,none⟩),evA 20 a b v cy co,.bool had] w (RetV w0 (.bool (rule A 20 a b v had)) (rfP pb A*F)):=by
 have hb:b<80:=by simp [okN,shp,win] at hok;omega
 have ha:a<16:=by simp [okN,shp,win] at hok;omega
 obtain ⟨g,off,cap,c1,c2,hs⟩:=rfP_out hA hs
 go_enter Tryz.func63,Tryz.ntmps63
 go_wp2_with fail;go_quiet (fail);go_wp2_with fail;refine (rfActs pb A b w0 _ any (rfP_of (v:=.slice (some ⟨g,off,none⟩) 64 cap) own_left) hA (by omega)).mono ?_;rintro e w' ⟨rfl,rfl⟩;go_wp2_with fail;go_ret;exact ⟨retB (rfl),rfP_of (v:=.slice (some ⟨g,off,none⟩) 64 cap) own_left⟩
theorem rfRule3 (pb:Nat) (A:Au) (a b v:Nat) (had:Bool) (cy co:Int) (w0 w:World) (F:HP) (hs:Sat w0 w (rfP pb A*F)) (hA:AOk A) (hok:okN 3 a b v=true) (hv:v<4294967296) :
    Calls Tryz.prog 63 #[.pointer (some ⟨pb, 0, none⟩), evA 3 a b v cy co, .bool had] w (RetV w0 (.bool (rule A 3 a b v had)) (rfP pb A*F)) := by
  have ha:a<16 := by simp [okN, shp, win] at hok; omega
  have i1:(a:Int)<16 := by omega
  have i2:decide (a<16)=true := by simp; omega
  haveI:Lt a A.pn.length := ⟨by rw [hA.lp]; omega⟩;have hb:b<256 := by simp [okN, shp, win] at hok; omega
  have hi := hA.isr;have Hr:Hid (rule A 3 a b v had=(decide (A.isr=0) && A.pn.getD a false)) := rfl;obtain ⟨g, off, cap, c1, c2, hs⟩ := rfP_out hA hs
  by_cases h1:A.isr=0
  all_goals
    first | have d2:decide (A.isr-1<0)=true := by simp; omega
          | have d2:decide (A.isr-1<0)=false := by simp; omega
    first | rw [decide_eq_true h1] at Hr | rw [decide_eq_false h1] at Hr
    clear h1
    go_enter Tryz.func63, Tryz.ntmps63
    go_wp2_with fail;go_quiet (fail);go_wp2_with fail;go_ret;exact ⟨retB (by rw [Hr.out]; simp), rfP_of (v := .slice (some ⟨g, off, none⟩) 64 cap) own_left⟩
theorem rfRule4 (pb:Nat) (A:Au) (a b v:Nat) (had:Bool) (cy co:Int) (w0 w:World) (F:HP) (hs:Sat w0 w (rfP pb A*F)) (hA:AOk A) (hok:okN 4 a b v=true) (hv:v<4294967296) :
  Calls Tryz.prog 63 #[.pointer (some ⟨pb,0,none⟩),evA 4 a b v cy co,.bool had] w (RetV w0 (.bool (rule A 4 a b v had)) (rfP pb A*F)):=by
 have ha:a<16:=by simp [okN,shp,win] at hok;omega
 have i1:(a:Int)<16:=by omega
 have i2:decide (a<16)=true:=by simp;omega
 haveI:Lt a A.pn.length:=⟨by rw [hA.lp];omega⟩;have hb:b<256:=by simp [okN,shp,win] at hok;omega
 have hi:=hA.isr;have Hr:Hid (rule A 4 a b v had=decide (A.isr=(a:Int)+1)):=rfl;obtain ⟨g,off,cap,c1,c2,hs⟩:=rfP_out hA hs
 go_enter Tryz.func63,Tryz.ntmps63
 go_wp2_with fail;go_quiet (fail);go_wp2_with fail;go_ret;exact ⟨retB (by rw [Hr.out,Bool.eq_iff_iff];simp;omega),rfP_of (v:=.slice (some ⟨g,off,none⟩) 64 cap) own_left⟩
theorem rfRule6 (pb:Nat) (A:Au) (a b v:Nat) (had:Bool) (cy co:Int) (w0 w:World) (F:HP) (hs:Sat w0 w (rfP pb A*F)) (hA:AOk A) (hok:okN 6 a b v=true) (hv:v<4294967296) :
    Calls Tryz.prog 63 #[.pointer (some ⟨pb, 0, none⟩), evA 6 a b v cy co, .bool had] w (RetV w0 (.bool (rule A 6 a b v had)) (rfP pb A*F)) := by
  have ha:a<64 := by simp [okN, shp, win] at hok; omega
  have i1:(a:Int)<64 := by omega
  have i2:decide (a<64)=true := by simp; omega
  haveI:Lt a A.ts.length := ⟨by rw [hA.lt]; omega⟩;have hb:b<256 := by simp [okN, shp, win] at hok; omega
  have hm := tkg_mem (l := A.ts) (k := a) this.lt;have hj := hA.job _ hm;have Hr := hid (rule6 A a b v had);have h2:(tkg A.ts a).st=(tkAt A a).st := rfl;obtain ⟨g, off, cap, c1, c2, hs⟩ := rfP_out hA hs;clear hm
  by_cases h1:(tkAt A a).st=0
  all_goals
    first | have e2:((tkg A.ts a).st==0)=true := by rw [h2]; simp [h1]
          | have e2:((tkg A.ts a).st==0)=false := by rw [h2]; simp [h1]
    first | rw [decide_eq_true h1, Bool.true_and] at Hr | rw [decide_eq_false h1, Bool.false_and] at Hr
    clear h1 h2
    go_enter Tryz.func63, Tryz.ntmps63
    go_wp2_with fail;go_quiet (fail);go_wp2_with fail;refine wp_gen (w0 := w0) ?_;intro wq hsq;go_quiet (fail);go_wp2_with fail;go_ret;exact ⟨retB (by first | (rw [Hr.out]; done) | (rw [Hr.out]; exact nbq _ _)), rfP_of (v := .slice (some ⟨g, off, none⟩) 64 cap) own_left⟩
theorem rfRule7 (pb:Nat) (A:Au) (a b v:Nat) (had:Bool) (cy co:Int) (w0 w:World) (F:HP) (hs:Sat w0 w (rfP pb A*F)) (hA:AOk A) (hok:okN 7 a b v=true) (hv:v<4294967296) :
    Calls Tryz.prog 63 #[.pointer (some ⟨pb, 0, none⟩), evA 7 a b v cy co, .bool had] w (RetV w0 (.bool (rule A 7 a b v had)) (rfP pb A*F)) := by
  have ha:a<64 := by simp [okN, shp, win] at hok; omega
  have i1:(a:Int)<64 := by omega
  have i2:decide (a<64)=true := by simp; omega
  haveI:Lt a A.ts.length := ⟨by rw [hA.lt]; omega⟩;have hb:b<256 := by simp [okN, shp, win] at hok; omega
  have hm := tkg_mem (l := A.ts) (k := a) this.lt;have hl := hA.late _ hm;have hst := hA.st _ hm;have Hr := hid (rule7 A a b v had);have h2:(tkg A.ts a).st=(tkAt A a).st := rfl;obtain ⟨g, off, cap, c1, c2, hs⟩ := rfP_out hA hs;clear hm;have fin:∀ (y1 y2:Bool), ((tkg A.ts a).st==1)=y1→((tkg A.ts a).st==2)=y2→Hid (rule A 7 a b v had=((y1 || y2) && decide ((v:Int)=min ((tkAt A a).late+1) 255))) := by
    intro y1 y2 e1 e2;rw [Hid, Hr.out, ← e1, ← e2]
    congr 1
    rw [Bool.eq_iff_iff]; simp only [decide_eq_true_eq, Bool.or_eq_true, beq_iff_eq]; rw [← h2]; omega
  by_cases hm:(tkg A.ts a).late+1≤255
  all_goals
    first
      | (have m1:¬ (255<(tkg A.ts a).late+1) := by omega
         have Hm:Hid (min ((tkAt A a).late+1) 255=(tkg A.ts a).late+1) := by unfold Hid tkAt; omega)
      | (have m1:255<(tkg A.ts a).late+1 := by omega
         have Hm:Hid (min ((tkAt A a).late+1) 255=255) := by unfold Hid tkAt; omega)
    clear hm;generalize e1:((tkg A.ts a).st==1)=y1 at *;generalize e2:((tkg A.ts a).st==2)=y2 at *;have Hf := hid (fin y1 y2 rfl rfl).out;clear fin hst h2
    cases y1<;>cases y2
    all_goals
      go_enter Tryz.func63, Tryz.ntmps63
      go_wp2_with fail;go_quiet (fail);go_wp2_with fail;refine wp_gen (w0 := w0) ?_;intro wq hsq;go_quiet (fail);go_wp2_with fail;go_ret;exact ⟨retB (by first | (rw [Hf.out]; done) | (rw [Hf.out, Hm.out]; first | rfl | exact beqD _ _)), rfP_of (v := .slice (some ⟨g, off, none⟩) 64 cap) own_left⟩
theorem rfRule8 (pb:Nat) (A:Au) (a b v:Nat) (had:Bool) (cy co:Int) (w0 w:World) (F:HP) (hs:Sat w0 w (rfP pb A*F)) (hA:AOk A) (hok:okN 8 a b v=true) (hv:v<4294967296) :
  Calls Tryz.prog 63 #[.pointer (some ⟨pb,0,none⟩),evA 8 a b v cy co,.bool had] w (RetV w0 (.bool (rule A 8 a b v had)) (rfP pb A*F)):=by
 have ha:a<64:=by simp [okN,shp,win] at hok;omega
 have i1:(a:Int)<64:=by omega
 have i2:decide (a<64)=true:=by simp;omega
 haveI:Lt a A.ts.length:=⟨by rw [hA.lt];omega⟩;have hb:b<256:=by simp [okN,shp,win] at hok;omega
 have Hr:=hid (rule8 A a b v had);generalize hx:acts A a=x at Hr;have Hx:=hid hx;clear hx;obtain ⟨g,off,cap,c1,c2,hs⟩:=rfP_out hA hs
 cases x
 all_goals
  go_enter Tryz.func63,Tryz.ntmps63
  go_wp2_with fail;go_quiet (fail);go_wp2_with fail;refine wp_gen (w0:=w0) ?_;intro wq hsq;go_quiet ((go_at_call 100;exact quiet_eq (rfActsX pb A a _ Hx.out w0 _ any (rfP_of (v:=.slice (some ⟨g,off,none⟩) 64 cap) own_left) hA (by omega))));go_wp2_with fail;go_ret;exact ⟨retB (by rw [Hr.out];first | rfl | exact natBeq _ _),rfP_of (v:=.slice (some ⟨g,off,none⟩) 64 cap) own_left⟩
theorem rfRule15 (pb:Nat) (A:Au) (a b v:Nat) (had:Bool) (cy co:Int) (w0 w:World) (F:HP) (hs:Sat w0 w (rfP pb A*F)) (hA:AOk A) (hok:okN 15 a b v=true) (hv:v<4294967296) :
  Calls Tryz.prog 63 #[.pointer (some ⟨pb,0,none⟩),evA 15 a b v cy co,.bool had] w (RetV w0 (.bool (rule A 15 a b v had)) (rfP pb A*F)):=by
 have ha:a<80:=by simp [okN,shp,win] at hok;omega
 have hb:b<256:=by simp [okN,shp,win] at hok;omega
 obtain ⟨g,off,cap,c1,c2,hs⟩:=rfP_out hA hs
 go_enter Tryz.func63,Tryz.ntmps63
 go_wp2_with fail;go_quiet (fail);go_wp2_with fail;refine (rfActs pb A a w0 _ any (rfP_of (v:=.slice (some ⟨g,off,none⟩) 64 cap) own_left) hA (by omega)).mono ?_;rintro e w' ⟨rfl,rfl⟩;go_wp2_with fail;go_ret;exact ⟨retB (rfl),rfP_of (v:=.slice (some ⟨g,off,none⟩) 64 cap) own_left⟩
theorem rfRule19 (pb:Nat) (A:Au) (a b v:Nat) (had:Bool) (cy co:Int) (w0 w:World) (F:HP) (hs:Sat w0 w (rfP pb A*F)) (hA:AOk A) (hok:okN 19 a b v=true) (hv:v<4294967296) :
  Calls Tryz.prog 63 #[.pointer (some ⟨pb,0,none⟩),evA 19 a b v cy co,.bool had] w (RetV w0 (.bool (rule A 19 a b v had)) (rfP pb A*F)):=by
 have ha:a<80:=by simp [okN,shp,win] at hok;omega
 have hb:b<256:=by simp [okN,shp,win] at hok;omega
 obtain ⟨g,off,cap,c1,c2,hs⟩:=rfP_out hA hs
 go_enter Tryz.func63,Tryz.ntmps63
 go_wp2_with fail;go_quiet (fail);go_wp2_with fail;refine (rfActs pb A a w0 _ any (rfP_of (v:=.slice (some ⟨g,off,none⟩) 64 cap) own_left) hA (by omega)).mono ?_;rintro e w' ⟨rfl,rfl⟩;go_wp2_with fail;go_ret;exact ⟨retB (rfl),rfP_of (v:=.slice (some ⟨g,off,none⟩) 64 cap) own_left⟩
theorem rfRule21 (pb:Nat) (A:Au) (a b v:Nat) (had:Bool) (cy co:Int) (w0 w:World) (F:HP) (hs:Sat w0 w (rfP pb A*F)) (hA:AOk A) (hok:okN 21 a b v=true) (hv:v<4294967296) :
  Calls Tryz.prog 63 #[.pointer (some ⟨pb,0,none⟩),evA 21 a b v cy co,.bool had] w (RetV w0 (.bool (rule A 21 a b v had)) (rfP pb A*F)):=by
 have ha:a<80:=by simp [okN,shp,win] at hok;omega
 have hb:b<256:=by simp [okN,shp,win] at hok;omega
 obtain ⟨g,off,cap,c1,c2,hs⟩:=rfP_out hA hs
 go_enter Tryz.func63,Tryz.ntmps63
 go_wp2_with fail;go_quiet (fail);go_wp2_with fail;refine (rfActs pb A a w0 _ any (rfP_of (v:=.slice (some ⟨g,off,none⟩) 64 cap) own_left) hA (by omega)).mono ?_;rintro e w' ⟨rfl,rfl⟩;go_wp2_with fail;go_ret;exact ⟨retB (rfl),rfP_of (v:=.slice (some ⟨g,off,none⟩) 64 cap) own_left⟩
theorem rfRule22 (pb:Nat) (A:Au) (a b v:Nat) (had:Bool) (cy co:Int) (w0 w:World) (F:HP) (hs:Sat w0 w (rfP pb A*F)) (hA:AOk A) (hok:okN 22 a b v=true) (hv:v<4294967296) :
  Calls Tryz.prog 63 #[.pointer (some ⟨pb,0,none⟩),evA 22 a b v cy co,.bool had] w (RetV w0 (.bool (rule A 22 a b v had)) (rfP pb A*F)):=by
 have ha:a<80:=by simp [okN,shp,win] at hok;omega
 have hb:b<256:=by simp [okN,shp,win] at hok;omega
 obtain ⟨g,off,cap,c1,c2,hs⟩:=rfP_out hA hs
 go_enter Tryz.func63,Tryz.ntmps63
 go_wp2_with fail;go_quiet (fail);go_wp2_with fail;refine (rfActs pb A a w0 _ any (rfP_of (v:=.slice (some ⟨g,off,none⟩) 64 cap) own_left) hA (by omega)).mono ?_;rintro e w' ⟨rfl,rfl⟩;go_wp2_with fail;go_ret;exact ⟨retB (rfl),rfP_of (v:=.slice (some ⟨g,off,none⟩) 64 cap) own_left⟩
theorem rfRule14 (pb:Nat) (A:Au) (a b v:Nat) (had:Bool) (cy co:Int) (w0 w:World) (F:HP) (hs:Sat w0 w (rfP pb A*F)) (hA:AOk A) (hok:okN 14 a b v=true) (hv:v<4294967296) :
  Calls Tryz.prog 63 #[.pointer (some ⟨pb,0,none⟩),evA 14 a b v cy co,.bool had] w (RetV w0 (.bool (rule A 14 a b v had)) (rfP pb A*F)):=by
 have ha:a≤80:=by simp [okN,shp,win] at hok;omega
 have hb:b<256:=by simp [okN,shp,win] at hok;omega
 obtain ⟨g,off,cap,c1,c2,hs⟩:=rfP_out hA hs
 go_enter Tryz.func63,Tryz.ntmps63
 go_wp2_with fail;go_quiet (fail);go_wp2_with fail;refine (rfPosts pb A a w0 _ any (rfP_of (v:=.slice (some ⟨g,off,none⟩) 64 cap) own_left) hA (by omega)).mono ?_;rintro e w' ⟨rfl,rfl⟩;go_wp2_with fail;go_ret;exact ⟨retB (rfl),rfP_of (v:=.slice (some ⟨g,off,none⟩) 64 cap) own_left⟩
theorem rfRule23 (pb:Nat) (A:Au) (a b v:Nat) (had:Bool) (cy co:Int) (w0 w:World) (F:HP) (hs:Sat w0 w (rfP pb A*F)) (hA:AOk A) (hok:okN 23 a b v=true) (hv:v<4294967296) :
  Calls Tryz.prog 63 #[.pointer (some ⟨pb,0,none⟩),evA 23 a b v cy co,.bool had] w (RetV w0 (.bool (rule A 23 a b v had)) (rfP pb A*F)):=by
 have ha:a≤80:=by simp [okN,shp,win] at hok;omega
 have hb:b<256:=by simp [okN,shp,win] at hok;omega
 obtain ⟨g,off,cap,c1,c2,hs⟩:=rfP_out hA hs
 go_enter Tryz.func63,Tryz.ntmps63
 go_wp2_with fail;go_quiet (fail);go_wp2_with fail;refine (rfPosts pb A a w0 _ any (rfP_of (v:=.slice (some ⟨g,off,none⟩) 64 cap) own_left) hA (by omega)).mono ?_;rintro e w' ⟨rfl,rfl⟩;go_wp2_with fail;go_ret;exact ⟨retB (rfl),rfP_of (v:=.slice (some ⟨g,off,none⟩) 64 cap) own_left⟩
theorem rfRule18 (pb:Nat) (A:Au) (a b v:Nat) (had:Bool) (cy co:Int) (w0 w:World) (F:HP) (hs:Sat w0 w (rfP pb A*F)) (hA:AOk A) (hok:okN 18 a b v=true) (hv:v<4294967296) :
  Calls Tryz.prog 63 #[.pointer (some ⟨pb,0,none⟩),evA 18 a b v cy co,.bool had] w (RetV w0 (.bool (rule A 18 a b v had)) (rfP pb A*F)):=by
 have ha:a<256:=by simp [okN,shp,win] at hok;omega
 have hb:b<256:=by simp [okN,shp,win] at hok;omega
 obtain ⟨g,off,cap,c1,c2,hs⟩:=rfP_out hA hs
 go_enter Tryz.func63,Tryz.ntmps63
 go_wp2_with fail;go_quiet (fail);go_wp2_with fail;go_ret;exact ⟨retB (rfl),rfP_of (v:=.slice (some ⟨g,off,none⟩) 64 cap) own_left⟩
theorem rfRule24 (pb:Nat) (A:Au) (a b v:Nat) (had:Bool) (cy co:Int) (w0 w:World) (F:HP) (hs:Sat w0 w (rfP pb A*F)) (hA:AOk A) (hok:okN 24 a b v=true) (hv:v<4294967296) :
  Calls Tryz.prog 63 #[.pointer (some ⟨pb,0,none⟩),evA 24 a b v cy co,.bool had] w (RetV w0 (.bool (rule A 24 a b v had)) (rfP pb A*F)):=by
 have ha:a<256:=by simp [okN,shp,win] at hok;omega
 have hb:b<256:=by simp [okN,shp,win] at hok;omega
 obtain ⟨g,off,cap,c1,c2,hs⟩:=rfP_out hA hs
 go_enter Tryz.func63,Tryz.ntmps63
 go_wp2_with fail;go_quiet (fail);go_wp2_with fail;go_ret;exact ⟨retB (rfl),rfP_of (v:=.slice (some ⟨g,off,none⟩) 64 cap) own_left⟩
theorem rfRule11 (pb:Nat) (A:Au) (a b v:Nat) (had:Bool) (cy co:Int) (w0 w:World) (F:HP) (hs:Sat w0 w (rfP pb A*F)) (hA:AOk A) (hok:okN 11 a b v=true) (hv:v<4294967296) :
  Calls Tryz.prog 63 #[.pointer (some ⟨pb,0,none⟩),evA 11 a b v cy co,.bool had] w (RetV w0 (.bool (rule A 11 a b v had)) (rfP pb A*F)):=by
 have ha:a<64:=by simp [okN,shp,win] at hok;omega
 have i1:(a:Int)<64:=by omega
 have i2:decide (a<64)=true:=by simp;omega
 haveI:Lt a A.ts.length:=⟨by rw [hA.lt];omega⟩;have hb:b<32:=by simp [okN,shp,win] at hok;omega
 have Hr:=hid (rule11 A a b v had);obtain ⟨g,off,cap,c1,c2,hs⟩:=rfP_out hA hs
 go_enter Tryz.func63,Tryz.ntmps63
 go_wp2_with fail;go_quiet (fail);go_wp2_with fail;go_ret;exact ⟨retB (by rw [Hr.out];exact bneD2 _ _),rfP_of (v:=.slice (some ⟨g,off,none⟩) 64 cap) own_left⟩
theorem rfRule12 (pb:Nat) (A:Au) (a b v:Nat) (had:Bool) (cy co:Int) (w0 w:World) (F:HP) (hs:Sat w0 w (rfP pb A*F)) (hA:AOk A) (hok:okN 12 a b v=true) (hv:v<4294967296) :
    Calls Tryz.prog 63 #[.pointer (some ⟨pb, 0, none⟩), evA 12 a b v cy co, .bool had] w (RetV w0 (.bool (rule A 12 a b v had)) (rfP pb A*F)) := by
  have ha:a<64 := by simp [okN, shp, win] at hok; omega
  have hb:b<32 := by simp [okN, shp, win] at hok; omega
  have i1:(b:Int)<32 := by omega
  have i2:decide (b<32)=true := by simp; omega
  haveI:Lt b A.ow.length := ⟨by rw [hA.lo]; omega⟩;have hown := hA.own (owg A.ow b) (getD_mem (by rw [hA.lo]; omega) 0);have h2:owg A.ow b=owAt A b := rfl;have Hr := hid (rule12 A a b v had);generalize hx:acts A a=x at Hr;have Hx := hid hx;clear hx;obtain ⟨g, off, cap, c1, c2, hs⟩ := rfP_out hA hs
  by_cases h1:owAt A b=0
  all_goals
    first | have e1:decide (owg A.ow b-1<0)=true := by rw [h2]; simp; omega
          | have e1:decide (owg A.ow b-1<0)=false := by simp; omega
    first | rw [decide_eq_true h1, Bool.true_and] at Hr | rw [decide_eq_false h1, Bool.false_and] at Hr
    clear h1 h2
    cases had
    all_goals
      go_enter Tryz.func63, Tryz.ntmps63
      go_wp2_with fail;go_quiet (fail);go_wp2_with fail
      try
        refine (rfActsX pb A a _ Hx.out w0 _ any (rfP_of (v := .slice (some ⟨g, off, none⟩) 64 cap) own_left) hA (by omega)).mono ?_;rintro e w' ⟨rfl, rfl⟩;go_wp2_with fail
      go_ret;exact ⟨retB (by first | (rw [Hr.out]; done) | (rw [Hr.out]; rfl)), rfP_of (v := .slice (some ⟨g, off, none⟩) 64 cap) own_left⟩
theorem rfRule13 (pb:Nat) (A:Au) (a b v:Nat) (had:Bool) (cy co:Int) (w0 w:World) (F:HP) (hs:Sat w0 w (rfP pb A*F)) (hA:AOk A) (hok:okN 13 a b v=true) (hv:v<4294967296) :
  Calls Tryz.prog 63 #[.pointer (some ⟨pb,0,none⟩),evA 13 a b v cy co,.bool had] w (RetV w0 (.bool (rule A 13 a b v had)) (rfP pb A*F)):=by
 have ha:a<64:=by simp [okN,shp,win] at hok;omega
 have i1:(a:Int)<64:=by omega
 have i2:decide (a<64)=true:=by simp;omega
 haveI:Lt a A.ts.length:=⟨by rw [hA.lt];omega⟩;have hb:b<32:=by simp [okN,shp,win] at hok;omega
 have i3:(b:Int)<32:=by omega
 have i4:decide (b<32)=true:=by simp;omega
 haveI:Lt b A.ow.length:=⟨by rw [hA.lo];omega⟩;have hown:=hA.own (owg A.ow b) (getD_mem (by rw [hA.lo];omega) 0);have h2:owg A.ow b=owAt A b:=rfl;have h3:(tkg A.ts a).st=(tkAt A a).st:=rfl;have Hr:=hid (rule13 A a b v had);generalize hx:acts A a=x at Hr;have Hx:=hid hx;clear hx;obtain ⟨g,off,cap,c1,c2,hs⟩:=rfP_out hA hs
 by_cases h1:owAt A b=(a:Int)+1
 ·have e1:(owg A.ow b-1==(a:Int))=true:=by rw [h2];simp;omega
  rw [decide_eq_true h1,Bool.true_and,Bool.or_comm,← h3] at Hr;clear h1 h2 h3
  cases x
  all_goals
   go_enter Tryz.func63,Tryz.ntmps63
   go_wp2_with fail;go_quiet (fail);go_wp2_with fail;refine (rfActsX pb A a _ Hx.out w0 _ any (rfP_of (v:=.slice (some ⟨g,off,none⟩) 64 cap) own_left) hA (by omega)).mono ?_;rintro e w' ⟨rfl,rfl⟩;go_wp2_with fail;go_ret;exact ⟨retB (by first | (rw [Hr.out];done) | (rw [Hr.out];exact beqD _ _) | (rw [Hr.out];rfl)),rfP_of (v:=.slice (some ⟨g,off,none⟩) 64 cap) own_left⟩
 ·have e1:(owg A.ow b-1==(a:Int))=false:=by rw [h2];simp;omega
  rw [decide_eq_false h1,Bool.false_and] at Hr;clear h1 h2 h3
  go_enter Tryz.func63,Tryz.ntmps63
  go_wp2_with fail;go_quiet (fail);go_wp2_with fail;go_ret;exact ⟨retB (by rw [Hr.out]),rfP_of (v:=.slice (some ⟨g,off,none⟩) 64 cap) own_left⟩
end Go.Proofs.YtkeommmigopnkaaGreatDoor
