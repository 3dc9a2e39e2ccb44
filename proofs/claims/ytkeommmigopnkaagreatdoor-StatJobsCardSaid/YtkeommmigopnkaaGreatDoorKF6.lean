/-
  Parts of the proof: ConfP Isa IsaB IsaC ConfA ConfB ConfC ConfD Great.
-/
import Derived.Shelf.Spec.TrailingZeros
import Derived.IntWalk
import Derived.Test.YtkeommmigopnkaaGreatDoorKF2
import Derived.Test.YtkeommmigopnkaaGreatDoorKF3
import Derived.Test.YtkeommmigopnkaaGreatDoorKF4
set_option linter.unusedVariables false
set_option linter.unusedSimpArgs false
set_option maxHeartbeats 32000000
set_option maxRecDepth 100000
namespace Go.Proofs.YtkeommmigopnkaaGreatDoor
open Go.RowKit Go.Sx Go.Dl Go.Lk Go.Rq Go.Au
structure Ft where
 err:Int
 part:Int
 index:Int
 at_:Int
deriving DecidableEq
abbrev ft0:Ft:=⟨0,0,0,0⟩
def inR (n lo hi:Int):Bool:=decide (lo≤n∧n≤hi)
def firstOf (p:Nat→Bool) (n:Nat):Option Nat:=(List.range n).find? p
theorem firstOf_none {p:Nat→Bool} {n:Nat} (h:firstOf p n=none):∀ k,k<n→p k=false:=fun k hk=>by
 unfold firstOf at h;rw [List.find?_eq_none] at h;have:=h k (List.mem_range.2 hk)
 simpa using this
theorem firstOf_all {p:Nat→Bool} {n:Nat} (h:∀ k,k<n→p k=false):firstOf p n=none:=find_range_none h
theorem firstOf_some {p:Nat→Bool} {n k:Nat} (h1:k<n) (h2:p k=true) (h3:∀ j,j<k→p j=false):firstOf p n=some k:=find_range h1 h2 h3
def codeBad (l:List Ins) (isr:Bool) (k:Nat):Bool:=decide (checkE (insAt l k) l.length isr≠0)
def codeF (l:List Ins) (isr:Bool) (part index at_:Int):Ft :=
 if 256<l.length then ⟨4,part,index,at_⟩
 else match firstOf (codeBad l isr) l.length with
  | none=>ft0
  | some k=>⟨checkE (insAt l k) l.length isr,part,index,at_+1+k⟩
def taskF (t:Tc) (i:Int):Ft :=
 if ¬ inR t.lev 0 31 then ⟨5,1,i,1⟩
 else if ¬ inR t.off 1 1073741824 then ⟨5,1,i,2⟩
 else if ¬ inR t.per 0 1073741824 then ⟨5,1,i,3⟩
 else if ¬ inR t.dl 0 1073741824 then ⟨5,1,i,4⟩
 else if ¬ inR t.mem 0 256 then ⟨5,1,i,5⟩
 else codeF t.code false 1 i 6
def lineF (l:Lc) (i:Int):Ft :=
 if ¬ inR l.mem 0 256 then ⟨5,2,i,1⟩ else codeF l.code true 2 i 2
def taskBad (c:Cf) (k:Nat):Bool:=decide ((taskF (tcg c k) k).err≠0)
def lineBad (c:Cf) (k:Nat):Bool:=decide ((lineF (lcg c k) k).err≠0)
def linesF (c:Cf):Ft :=
 if 16<c.ls.length then ⟨4,2,0,0⟩
 else match firstOf (lineBad c) c.ls.length with
  | some k=>lineF (lcg c k) k
  | none=>ft0
def programsF (c:Cf):Ft :=
 if 64<c.ts.length then ⟨4,1,0,0⟩
 else match firstOf (taskBad c) c.ts.length with
  | some k=>taskF (tcg c k) k
  | none=>linesF c
def rowBad (l:List Int) (lo hi:Int) (k:Nat):Bool:=!inR (lg l k) lo hi
def rowF (l:List Int) (part lo hi:Int):Ft :=
 if 32<l.length then ⟨4,part,0,0⟩
 else match firstOf (rowBad l lo hi) l.length with
  | none=>ft0
  | some k=>⟨5,part,k,1⟩
def numF (ok:Bool) (part:Int):Ft:=if ok then ft0 else ⟨5,part,0,0⟩
def thenF (a b:Ft):Ft:=if a.err=0 then b else a
def maskOk (c:Cf):Bool:=decide (c.mask >>> min c.ls.length 16=0)
def confF (c:Cf):Ft :=
 thenF (thenF (thenF (thenF (thenF (thenF (thenF (programsF c) (numF (inR c.mutexes 0 32) 3)) (rowF c.sems 4 0 255)) (rowF c.queues 5 1 64)) (rowF c.timers 6 0 (c.sems.length-1))) (numF (inR c.table 0 64) 7)) (numF (maskOk c) 8)) (numF (inR c.charge 0 64) 9)
structure CfRng (c:Cf):Prop where
 tk:∀ t,t<c.ts.length→∀ i∈(tcg c t).code,rngW i.k
 lk:∀ t,t<c.ls.length→∀ i∈(lcg c t).code,rngW i.k
 mask:c.mask<4294967296
 filter:c.filter<4294967296
 cyc:0≤c.cycle∧c.cycle<18446744073709551616
 cnt:0≤c.count∧c.count<18446744073709551616
theorem thenF_err {a b:Ft} (h:(thenF a b).err=0):a.err=0∧b.err=0:=by
 unfold thenF at h
 split at h
 ·rename_i e;exact ⟨e,h⟩
 ·rename_i e;exact absurd h e
theorem inR_of {n lo hi:Int} (h:inR n lo hi=true):lo≤n∧n≤hi:=of_decide_eq_true h
theorem numF_ok {z:Bool} {p:Int} (h:(numF z p).err=0):z=true:=by
 unfold numF at h;cases z
 ·simp at h
 ·rfl
theorem rowF_ok {l:List Int} {p lo hi:Int} (h:(rowF l p lo hi).err=0):l.length≤32∧∀ x∈l,lo≤x∧x≤hi:=by
 unfold rowF at h
 split at h
 ·exact absurd h (by simp)
 ·rename_i e
  cases f:firstOf (rowBad l lo hi) l.length with
  | some k=>rw [f] at h;exact absurd h (by simp)
  | none =>
   refine ⟨by omega,fun x hx=>?_⟩;obtain ⟨k,hk,rfl⟩:=List.getElem_of_mem hx;have:=firstOf_none f k hk;unfold rowBad at this;have h2:lg l k=l[k]:=by unfold lg;simp [List.getD,hk]
   rw [h2] at this;exact inR_of (by simpa using this)
theorem codeF_ok {l:List Ins} {isr:Bool} {p i a:Int} (h:(codeF l isr p i a).err=0):l.length≤256∧∀ x∈l,checkE x l.length isr=0:=by
 unfold codeF at h
 split at h
 ·exact absurd h (by simp)
 ·rename_i e
  cases f:firstOf (codeBad l isr) l.length with
  | some k =>
   rw [f] at h;have hb:codeBad l isr k=true:=by
    have:=find_range_some (f:(List.range l.length).find? (codeBad l isr)=some k);exact this.2.1
   exact absurd h (of_decide_eq_true hb)
  | none =>
   refine ⟨by omega,fun x hx=>?_⟩;obtain ⟨k,hk,rfl⟩:=List.getElem_of_mem hx;have:=firstOf_none f k hk;unfold codeBad at this;have h2:insAt l (k:Int)=l[k]:=by unfold insAt;simp [List.getD,hk]
   rw [h2] at this;exact Classical.not_not.1 (of_decide_eq_false this)
theorem taskF_ok {t:Tc} {i:Int} (h:(taskF t i).err=0):(0≤t.lev∧t.lev<32)∧(1≤t.off∧t.off≤1073741824)∧(0≤t.per∧t.per≤1073741824)∧(0≤t.dl∧t.dl≤1073741824)∧(0≤t.mem∧t.mem≤256)∧t.code.length≤256∧∀ x∈t.code,checkE x t.code.length false=0:=by
 unfold taskF at h
 split at h
 ·exact absurd h (by simp)
 split at h
 ·exact absurd h (by simp)
 split at h
 ·exact absurd h (by simp)
 split at h
 ·exact absurd h (by simp)
 split at h
 ·exact absurd h (by simp)
 rename_i h1 h2 h3 h4 h5
 have a1:=inR_of (Classical.not_not.1 h1);have a2:=inR_of (Classical.not_not.1 h2);have a3:=inR_of (Classical.not_not.1 h3);have a4:=inR_of (Classical.not_not.1 h4);have a5:=inR_of (Classical.not_not.1 h5);have a6:=codeF_ok h;exact ⟨⟨a1.1,by omega⟩,a2,a3,a4,a5,a6⟩
theorem linesF_ok {c:Cf} (h:(linesF c).err=0):c.ls.length≤16∧∀ n,n<c.ls.length→(0≤(lcg c n).mem∧(lcg c n).mem≤256)∧(lcg c n).code.length≤256∧∀ x∈(lcg c n).code,checkE x (lcg c n).code.length true=0:=by
 unfold linesF at h
 split at h
 ·exact absurd h (by simp)
 ·rename_i e
  cases f:firstOf (lineBad c) c.ls.length with
  | some k =>
   rw [f] at h;have:=find_range_some (f:(List.range c.ls.length).find? (lineBad c)=some k);exact absurd h (of_decide_eq_true this.2.1)
  | none =>
   refine ⟨by omega,fun n hn=>?_⟩;have h1:=Classical.not_not.1 (of_decide_eq_false (firstOf_none f n hn));unfold lineF at h1
   split at h1
   ·exact absurd h1 (by simp)
   ·rename_i h2
    exact ⟨inR_of (Classical.not_not.1 h2),codeF_ok h1⟩
theorem programsF_ok {c:Cf} (h:(programsF c).err=0):c.ts.length≤64∧(∀ t,t<c.ts.length→(taskF (tcg c t) t).err=0)∧(linesF c).err=0:=by
 unfold programsF at h
 split at h
 ·exact absurd h (by simp)
 ·rename_i e
  cases f:firstOf (taskBad c) c.ts.length with
  | some k =>
   rw [f] at h;have:=find_range_some (f:(List.range c.ts.length).find? (taskBad c)=some k);exact absurd h (of_decide_eq_true this.2.1)
  | none =>
   rw [f] at h;exact ⟨by omega,fun t ht=>Classical.not_not.1 (of_decide_eq_false (firstOf_none f t ht)),h⟩
theorem confF_ok {c:Cf} (r:CfRng c) (h:(confF c).err=0):CfOk c:=by
 unfold confF at h;obtain ⟨h,h9⟩:=thenF_err h;obtain ⟨h,h8⟩:=thenF_err h;obtain ⟨h,h7⟩:=thenF_err h;obtain ⟨h,h6⟩:=thenF_err h;obtain ⟨h,h5⟩:=thenF_err h;obtain ⟨h,h4⟩:=thenF_err h;obtain ⟨h,h3⟩:=thenF_err h;obtain ⟨h1,h2,h0⟩:=programsF_ok h;obtain ⟨l1,l2⟩:=linesF_ok h0;have m3:=inR_of (numF_ok h3);have m4:=rowF_ok h4;have m5:=rowF_ok h5;have m6:=rowF_ok h6;have m7:=inR_of (numF_ok h7);have m8:c.mask >>> min c.ls.length 16=0:=of_decide_eq_true (numF_ok h8);have m9:=inR_of (numF_ok h9);rw [Nat.min_eq_left l1] at m8;refine ⟨h1,l1,fun t ht=>?_,fun t ht i hi=>?_,fun n hn=>?_,fun n hn i hi=>?_,m3,m4.1,m4.2,m5.1,m5.2,m6.1,fun x hx=>?_,m7,?_,r.filter,m9,r.cyc,r.cnt⟩
 ·obtain ⟨a1,a2,a3,a4,a5,a6,_⟩:=taskF_ok (h2 t ht);exact ⟨a1,a2,a3,a4,a5,a6⟩
 ·obtain ⟨_,_,_,_,_,_,a7⟩:=taskF_ok (h2 t ht);exact ⟨a7 i hi,r.tk t ht i hi⟩
 ·obtain ⟨a1,a2,_⟩:=l2 n hn;exact ⟨a1,a2⟩
 ·obtain ⟨_,_,a3⟩:=l2 n hn;exact ⟨a3 i hi,r.lk n hn i hi⟩
 ·have:=m6.2 x hx;exact ⟨this.1,by omega⟩
 ·rw [Nat.shiftRight_eq_div_pow] at m8;exact Nat.lt_of_not_le fun hle=>by have:=Nat.div_pos hle (Nat.two_pow_pos _);omega
end Go.Proofs.YtkeommmigopnkaaGreatDoor
namespace Go.Proofs.YtkeommmigopnkaaGreatDoor
open Go.RowKit Go.Sx
abbrev insV (i:Ins):Value:=.agg #[.int .i64 i.op,.int .i64 i.a,.int .i64 i.b,.int .i64 i.c,.int .i64 i.d,.int .u32 i.k]
theorem op_cases {op:Int} (h:1≤op∧op≤38):op=1∨op=2∨op=3∨op=4∨op=5∨op=6∨op=7∨op=8∨op=9∨op=10∨op=11∨op=12∨op=13∨op=14∨op=15∨op=16∨op=17∨op=18∨op=19∨op=20∨op=21∨op=22∨op=23∨op=24∨op=25∨op=26∨op=27∨op=28∨op=29∨op=30∨op=31∨op=32∨op=33∨op=34∨op=35∨op=36∨op=37∨op=38:=by omega
theorem isaUses (op:Int) (w:World):Calls Tryz.prog 206 #[.int .i64 op] w fun e w'=>e=.returned (.int .i64 (usesOf op:Nat))∧w=w':=by
 by_cases h:1≤op∧op≤38
 ·rcases op_cases h with rfl | rfl | rfl | rfl | rfl | rfl | rfl | rfl | rfl | rfl | rfl | rfl | rfl | rfl | rfl | rfl | rfl | rfl | rfl | rfl | rfl | rfl | rfl | rfl | rfl | rfl | rfl | rfl | rfl | rfl | rfl | rfl | rfl | rfl | rfl | rfl | rfl | rfl
  all_goals
   clear h
   go_enter Tryz.func206,Tryz.ntmps206
   go_wp2;go_ret;exact ⟨rfl,rfl⟩
 ·have hu:usesOf op=0:=by unfold usesOf;repeat rw [if_neg (by omega)]
  rw [hu];clear hu
  go_enter Tryz.func206,Tryz.ntmps206
  go_wp2
  all_goals
   go_ret;exact ⟨rfl,rfl⟩
theorem results_tmp5 {fn:Func} {t0 t1 t2 t3 t4:Tmp} (h:fn.results=#[.tmp t0,.tmp t1,.tmp t2,.tmp t3,.tmp t4]) (tmps:Array Value) (P:Program) (w:World) :
  (results fn tmps).run P w=.ok (.tuple #[tmps.getD t0 undef,tmps.getD t1 undef,tmps.getD t2 undef,tmps.getD t3 undef,tmps.getD t4 undef]) w:=by
 simp [results,h]
theorem uses_cases (op:Int):usesOf op=17∨usesOf op=3∨usesOf op=19∨usesOf op=16∨usesOf op=1∨usesOf op=31∨usesOf op=21∨usesOf op=29∨usesOf op=5∨usesOf op=7∨usesOf op=0:=by
 unfold usesOf;repeat' split
 all_goals simp
theorem isaUses5 (op:Int) (w:World):Calls Tryz.prog 182 #[.int .i64 op] w fun e w'=>e=.returned (.tuple #[.bool ((usesOf op).testBit 0),.bool ((usesOf op).testBit 1),.bool ((usesOf op).testBit 2),.bool ((usesOf op).testBit 3),.bool ((usesOf op).testBit 4)])∧w=w':=by
 have hc:=isaUses op w;have hu:=uses_cases op;generalize usesOf op=u at hc hu ⊢
 rcases hu with rfl | rfl | rfl | rfl | rfl | rfl | rfl | rfl | rfl | rfl | rfl
 all_goals
  go_enter Tryz.func182,Tryz.ntmps182
  go_wp2_with fail;refine hc.mono ?_;rintro e w' ⟨rfl,rfl⟩;go_wp2
  (try simp only [Exit.inBlock,Exit.then]);refine bodyPost_ret (results_tmp5 rfl _ _ _) rfl ?_
  exact ⟨rfl,rfl⟩
theorem isaReg (n:Int) (has:Bool) (w:World):Calls Tryz.prog 183 #[.int .i64 n,.bool has] w fun e w'=>e=.returned (.bool (regOk n has))∧w=w':=by
 unfold regOk
 cases has
 all_goals
  go_enter Tryz.func183,Tryz.ntmps183
  go_wp2
  all_goals
   go_ret;exact ⟨retB (by rw [Bool.eq_iff_iff];simp;try omega),rfl⟩
theorem isaIs (op:Int) (z:Bool) (hz:isOp op=z) (w:World):Calls Tryz.prog 181 #[.int .i64 op] w fun e w'=>e=.returned (.bool z)∧w=w':=by
 subst hz;unfold isOp
 go_enter Tryz.func181,Tryz.ntmps181
 go_wp2
 all_goals
  go_ret;exact ⟨retB (by rw [Bool.eq_iff_iff];simp;try omega),rfl⟩
theorem isaForm_bits (op a b c d k:Int) (B0 B1 B2 B3 B4:Bool) (hb:B0=(usesOf op).testBit 0∧B1=(usesOf op).testBit 1∧B2=(usesOf op).testBit 2∧B3=(usesOf op).testBit 3∧B4=(usesOf op).testBit 4) (r1 r2 r3:Bool)
  (h1:regOk a B0=r1) (h2:regOk b B1=r2) (h3:regOk c (B2 && (!B3 || decide (d=2)))=r3) (hop:isOp op=true) (z:Int) (hz:(if r1 && (r2 && (r3 && (decide (0≤d∧d≤2) && ((B3 || decide (d=0)) && ((B4 || decide (k=0)) && (if op=20 then decide (1≤k∧k≤1000) else if op=21∨op=22 then decide (k<16) else true)))))) then (0:Int) else 5)=z) (w0 w:World) (P:HP) (hs:Sat w0 w P) :
  Calls Tryz.prog 152 #[insV ⟨op,a,b,c,d,k⟩] w (RetV w0 (.int .i64 z) P):=by
 have hU:∀ wx,Hid (Calls Tryz.prog 182 #[.int .i64 op] wx fun e w'=>e=.returned (.tuple #[.bool B0,.bool B1,.bool B2,.bool B3,.bool B4])∧wx=w'):=fun wx=>by
  obtain ⟨rfl,rfl,rfl,rfl,rfl⟩:=hb;exact isaUses5 op wx
 clear hb;have hI:=hid (fun wx=>isaIs op true hop wx);have H1:=hid (fun wx=>isaReg a B0 wx);have H2:=hid (fun wx=>isaReg b B1 wx);have H3:=hid (fun x wx=>isaReg c x wx);rw [h1] at H1;rw [h2] at H2;have H3x:=hid h3;have Hz:=hid hz;clear hop h1 h2 h3 hz
 go_enter Tryz.func152,Tryz.ntmps152
 go_wp2_with fail;refine (hI.out _).mono ?_;rintro en w1 ⟨rfl,rfl⟩;go_wp2_with fail;refine (hU _).out.mono ?_;rintro en w1 ⟨rfl,rfl⟩;go_wp2_with fail;refine (H1.out _).mono ?_;rintro en w1 ⟨rfl,rfl⟩
 cases r1
 ·go_wp2_with fail
  all_goals (go_ret;refine ⟨?_,own_left⟩;rw [← Hz.out]; (try congr 2);try (first | rfl | (simp_all;done) | (simp_all;omega) | (simp;omega)))
 go_wp2_with fail;refine (H2.out _).mono ?_;rintro en w1 ⟨rfl,rfl⟩
 cases r2
 ·go_wp2_with fail
  all_goals (go_ret;refine ⟨?_,own_left⟩;rw [← Hz.out]; (try congr 2);try (first | rfl | (simp_all;done) | (simp_all;omega) | (simp;omega)))
 cases B2<;>cases B3<;>by_cases hd:d=2
 all_goals
  first | (have hd2:(d==2)=true:=by simp [hd]) | (have hd2:(d==2)=false:=by simp [hd])
  simp only [hd,decide_true,decide_false,Bool.not_true,Bool.not_false,Bool.true_or,Bool.false_or,Bool.and_true,Bool.and_false,Bool.true_and,Bool.false_and] at H3x;go_wp2_with fail;refine (H3.out _ _).mono ?_;rintro en w1 ⟨rfl,rfl⟩;rw [H3x.out]
  cases r3
 all_goals
  go_wp2_with fail
  all_goals (go_ret;refine ⟨?_,own_left⟩;rw [← Hz.out]; (try congr 2);try (first | rfl | (simp_all;done) | (simp_all;omega) | (simp;omega)))
theorem isaForm (i:Ins) (z:Int) (hz:formE i=z) (w0 w:World) (P:HP) (hs:Sat w0 w P):Calls Tryz.prog 152 #[insV i] w (RetV w0 (.int .i64 z) P):=by
 obtain ⟨op,a,b,c,d,k⟩:=i
 cases h:isOp op with
 | true =>
  refine isaForm_bits op a b c d k _ _ _ _ _ ⟨rfl,rfl,rfl,rfl,rfl⟩ _ _ _ rfl rfl rfl h z ?_ w0 w P hs;rw [← hz];unfold formE formOk;simp only [h,Bool.not_true,not_true_eq_false,if_false,Bool.and_assoc]
 | false =>
  have Hz:=hid hz;have hI:=hid (fun wx=>isaIs op false h wx);have H:=hid h;clear h hz
  go_enter Tryz.func152,Tryz.ntmps152
  go_wp2_with fail;refine (hI.out _).mono ?_;rintro en w1 ⟨rfl,rfl⟩;go_wp2_with fail;go_ret;refine ⟨?_,own_left⟩;rw [← Hz.out];unfold formE;simp [H.out]
theorem isaCost (i:Ins) (z:Int) (hz:costOf i=z) (hf:formE i=0) (hk:0≤i.k∧i.k<4294967296) (w0 w:World) (P:HP) (hs:Sat w0 w P):Calls Tryz.prog 143 #[insV i] w (RetV w0 (.int .i64 z) P):=by
 have hF:=hid (fun (wx:World) (Q:HP) (h:Sat w0 wx Q)=>isaForm i 0 hf w0 wx Q h);obtain ⟨op,a,b,c,d,k⟩:=i;have Hz:=hid hz;have Hf:=hid hf;have hw:wrap64 k=k:=IntWalk.wrap64_in k ⟨by have:=hk.1;have:0≤k:=this;omega,by have:=hk.2;have:k<4294967296:=this;omega⟩;have Hw:=hid hw;clear hz hf hk hw
 go_enter Tryz.func143,Tryz.ntmps143
 go_wp2_with fail;refine (hF.out _ _ own_it).mono ?_;rintro en w1 ⟨rfl,hs1⟩;clear hs;go_wp2
 all_goals
  go_ret;refine ⟨?_,own_left⟩;rw [← Hz.out];unfold costOf;rw [if_neg (Classical.not_not.2 Hf.out)]
  first | (simp_all;done) | (simp_all;omega) | (rw [Hw.out];simp_all)
theorem isaMay (i:Ins) (isr:Bool) (z:Bool) (hz:may i isr=z) (w0 w:World) (P:HP) (hs:Sat w0 w P):Calls Tryz.prog 153 #[insV i,.bool isr] w (RetV w0 (.bool z) P):=by
 obtain ⟨op,a,b,c,d,k⟩:=i;have Hz:=hid hz;clear hz
 cases isr
 all_goals
  go_enter Tryz.func153,Tryz.ntmps153
  go_wp2
  all_goals
   go_ret;refine ⟨?_,own_left⟩;rw [← Hz.out];unfold may
   first | (simp_all;done) | (simp_all;omega) | (simp_all;by_cases hd:d=1<;>simp [hd])
theorem isaCheck (i:Ins) (n:Int) (isr:Bool) (z:Int) (hz:checkE i n isr=z) (hk:0≤i.k∧i.k<4294967296) (w0 w:World) (P:HP) (hs:Sat w0 w P):Calls Tryz.prog 120 #[insV i,.int .i64 n,.bool isr] w (RetV w0 (.int .i64 z) P):=by
 have hF:=hid (fun (e:Int) (he:formE i=e) (wx:World) (Q:HP) (h:Sat w0 wx Q)=>isaForm i e he w0 wx Q h);have hM:=hid (fun (e:Bool) (he:may i isr=e) (wx:World) (Q:HP) (h:Sat w0 wx Q)=>isaMay i isr e he w0 wx Q h);unfold checkE at hz
 by_cases h1:formE i=0
 ·rw [if_neg (Classical.not_not.2 h1)] at hz
  cases h2:may i isr
  ·rw [h2,if_pos (by simp)] at hz;have H1:=hid h1;have H2:=hid h2;subst hz;clear h1 h2;obtain ⟨op,a,b,c,d,k⟩:=i
   go_enter Tryz.func120,Tryz.ntmps120
   go_wp2_with fail;refine (hF.out 0 H1.out _ _ own_it).mono ?_;rintro en w1 ⟨rfl,hs1⟩;clear hs;go_wp2_with fail;refine (hM.out false H2.out _ _ own_it).mono ?_;rintro en w1 ⟨rfl,hs2⟩;clear hs1;go_wp2_with fail;go_ret;exact ⟨rfl,own_left⟩
  ·rw [h2,if_neg (by simp)] at hz;have H1:=hid h1;have H2:=hid h2;have Hz:=hid hz;obtain ⟨op,a,b,c,d,k⟩:=i;have hk0:0≤k:=hk.1;have hk1:k<4294967296:=hk.2;clear h1 h2 hz hk
   go_enter Tryz.func120,Tryz.ntmps120
   go_wp2_with fail;refine (hF.out 0 H1.out _ _ own_it).mono ?_;rintro en w1 ⟨rfl,hs1⟩;clear hs;go_wp2_with fail;refine (hM.out true H2.out _ _ own_it).mono ?_;rintro en w1 ⟨rfl,hs2⟩;clear hs1;go_wp2
   all_goals
    go_ret;refine ⟨?_,own_left⟩;rw [← Hz.out];simp_all
    try omega
 ·rw [if_pos h1] at hz;obtain ⟨op,a,b,c,d,k⟩:=i;have e1:(z==0)=false:=by rw [← hz];simpa using h1
  have Hz:=hid hz;clear h1 hz hM
  go_enter Tryz.func120,Tryz.ntmps120
  go_wp2_with fail;refine (hF.out z Hz.out _ _ own_it).mono ?_;rintro en w1 ⟨rfl,hs1⟩;clear hs;go_wp2_with fail;go_ret;exact ⟨rfl,own_left⟩
end Go.Proofs.YtkeommmigopnkaaGreatDoor
namespace Go.Sx
open Go.RowKit
theorem Sat.over {w0 w w':World} {P Q:HP} (hs:Sat w0 w P) (h:Sat w w' Q):Sat w0 w' (Q*P):=by
 obtain ⟨hp,p,kp⟩:=hs.own;obtain ⟨hq,q,kq⟩:=h.own;have hb:Below w0.heap.size w0 w':=hs.below.trans (h.below.mono hs.below.size);have up:∀ b o v,hp b o=some v→b<w.heap.size:=fun b o v e=>(kp b o v e).2.lt;refine ⟨hb,fun b o=>(hq b o).or (hp b o),?_,?_⟩
 ·refine ⟨hq,hp,fun b o=>?_,fun _ _=>rfl,q,p⟩
  cases e1:hq b o with
  | none=>exact .inl rfl
  | some v =>
   cases e2:hp b o with
   | none=>exact .inr rfl
   | some u =>
    have:=(kq b o v e1).1;have:=up b o u e2;omega
 ·intro b o v e;have e:(hq b o).or (hp b o)=some v:=e
  cases e1:hq b o with
  | some u =>
   rw [e1] at e;obtain rfl:u=v:=by simpa using e
   obtain ⟨k1,k2⟩:=kq b o u e1;exact ⟨Nat.le_trans hs.below.size k1,k2⟩
  | none =>
   rw [e1] at e;have e:hp b o=some v:=by simpa using e
   obtain ⟨k1,k2⟩:=kp b o v e;exact ⟨k1,k2.below h.below⟩
theorem Sat.past {w0 w w':World} {P:HP} (hs:Sat w0 w P) (h:Sat w w' emp):Sat w0 w' P:=(hs.over h).perm (emp_star _)
theorem oldArr_at {w0:World} {α:Type} {sz:Nat} {E:Enc α sz} {b o:Nat} {l:List α} (h:∀ j u,(cellsOf l)[j]?=some u→w0.cell? ⟨b,o+j,none⟩=some u) {k c:Nat} {v:Value} (hk:k<l.length) (hc:c<sz) (he:(E.enc (l.getD k E.dft))[c]?=some v):w0.cell? ⟨b,o+k*sz+c,none⟩=some v:=by
 have:=h (k*sz+c) v (by rw [cellsOf_at hk hc];exact he)
 rwa [← Nat.add_assoc] at this
end Go.Sx
namespace Go.Proofs.YtkeommmigopnkaaGreatDoor
open Go.RowKit Go.Sx Go.Dl Go.Lk Go.Rq Go.Au
def ftV (f:Ft):Value:=.agg #[.int .i64 f.err,.int .i64 f.part,.int .i64 f.index,.int .i64 f.at_]
theorem confIn (n lo hi:Int) (z:Bool) (hz:inR n lo hi=z) (w:World):Calls Tryz.prog 54 #[.int .i64 n,.int .i64 lo,.int .i64 hi] w fun e w'=>e=.returned (.bool z)∧w=w':=by
 subst hz;unfold inR
 by_cases h1:lo≤n
 ·by_cases h2:n≤hi
  ·have d1:decide (lo≤n)=true:=decide_eq_true h1;have d2:decide (n≤hi)=true:=decide_eq_true h2;rw [decide_eq_true (show lo≤n∧n≤hi from ⟨h1,h2⟩)];clear h1 h2
   go_enter Tryz.func54,Tryz.ntmps54
   go_wp2;go_ret;exact ⟨rfl,rfl⟩
  ·have d1:decide (lo≤n)=true:=decide_eq_true h1;have d2:decide (n≤hi)=false:=decide_eq_false h2;rw [decide_eq_false (show ¬ (lo≤n∧n≤hi) from fun h=>h2 h.2)];clear h1 h2
   go_enter Tryz.func54,Tryz.ntmps54
   go_wp2;go_ret;exact ⟨rfl,rfl⟩
 ·have d1:decide (lo≤n)=false:=decide_eq_false h1;rw [decide_eq_false (show ¬ (lo≤n∧n≤hi) from fun h=>h1 h.1)];clear h1
  go_enter Tryz.func54,Tryz.ntmps54
  go_wp2;go_ret;exact ⟨rfl,rfl⟩
theorem confNumber (ok:Bool) (part:Int) (w:World):Calls Tryz.prog 53 #[.bool ok,.int .i64 part] w (RetV w (ftV (numF ok part)) emp):=by
 have hs:=Sat.start w;unfold numF ftV
 cases ok
 ·go_enter Tryz.func53,Tryz.ntmps53
  go_wp2_with fail;go_returns;exact ⟨rfl,own_left⟩
 ·go_enter Tryz.func53,Tryz.ntmps53
  go_wp2_with fail;go_returns;exact ⟨rfl,own_left⟩
theorem rowF_at {l:List Int} {p lo hi:Int} {k:Nat} (hl:¬ 32<l.length) (hk:k<l.length) (h:rowBad l lo hi k=true) (hj:∀ j,j<k→rowBad l lo hi j=false):rowF l p lo hi=⟨5,p,k,1⟩:=by
 unfold rowF;rw [if_neg hl,firstOf_some hk h hj]
theorem rowF_fine {l:List Int} {p lo hi:Int} (hl:¬ 32<l.length) (hj:∀ j,j<l.length→rowBad l lo hi j=false):rowF l p lo hi=ft0:=by
 unfold rowF;rw [if_neg hl,firstOf_all hj]
theorem confRow (v:Value) (l:List Int) (part lo hi:Int) (w0:World) (hr:RdN .i64 w0 v l):Calls Tryz.prog 55 #[v,.int .i64 part,.int .i64 lo,.int .i64 hi] w0 (RetV w0 (ftV (rowF l part lo hi)) emp):=by
 have hs:=Sat.start w0;obtain ⟨a,cap,g,off,rfl,_,hcm,ha,hc⟩:=hr
 by_cases hl:32<l.length
 ·have hx:rowF l part lo hi=⟨4,part,0,0⟩:=by unfold rowF;rw [if_pos hl]
  rw [hx];have d1:decide (32<l.length)=true:=decide_eq_true hl;have d2:decide ((32:Int)<(l.length:Int))=true:=by simp;omega
  clear ha hc hx
  go_enter Tryz.func55,Tryz.ntmps55
  go_wp2_with fail;go_returns;exact ⟨rfl,own_left⟩
 ·have d1:decide (32<l.length)=false:=decide_eq_false hl;have d2:decide ((32:Int)<(l.length:Int))=false:=by simp;omega
  have Ha:=hid ha;have Hc:=hid hc;clear ha hc
  go_enter Tryz.func55,Tryz.ntmps55
  go_wp2_with fail;refine wp_gen (w0:=w0) ?_;intro ww hsw;clear hs
  go_loopw [18] (fun i wr=>∃ k:Nat,k≤l.length∧i=.int .i64 k∧(∀ j,j<k→rowBad l lo hi j=false)∧Sat w0 wr (pts w0.heap.size 0 [.int .i64 0,.int .i64 0,.int .i64 0,.int .i64 0]*emp)) (fun i _=>l.length-(intOf i).toNat)
  case atStart=>exact ⟨0,Nat.zero_le _,rfl,fun j hj=>absurd hj (by omega),hsw⟩
  case round =>
   obtain ⟨k,hk,rfl,hb,hsr⟩:=hrel;clear hsw;have Hb:=hid hb;clear hb
   by_cases hlt:k<l.length
   ·have d3:decide (k<l.length)=true:=decide_eq_true hlt;have i3:(k:Int)<(l.length:Int):=by omega
    obtain rfl:=Ha.out (by intro h;simp [h] at hlt);haveI o1:Old w0 g (off+k) (.int .i64 (lg l k)):=⟨Hc.out k hlt⟩
    cases hz:inR (lg l k) lo hi
    ·have hx:=hid (rowF_at (p:=part) hl hlt (by unfold rowBad;rw [hz];rfl) Hb.out);have hI:=hid (fun w=>confIn (lg l k) lo hi false hz w);rw [hx.out];clear hz hx;go_wp2_with fail;refine (hI.out _).mono ?_;rintro en w1 ⟨rfl,rfl⟩;go_wp2_with fail;go_returns;exact ⟨rfl,own_left⟩
    ·have hI:=hid (fun w=>confIn (lg l k) lo hi true hz w);have hb2:Hid (∀ j,j<k+1→rowBad l lo hi j=false):=hid fun j hj=>by
      rcases Nat.lt_or_ge j k with h | h
      ·exact Hb.out j h
      ·obtain rfl:j=k:=by omega
       unfold rowBad;rw [hz];rfl
     clear hz;go_wp2_with fail;refine (hI.out _).mono ?_;rintro en w1 ⟨rfl,rfl⟩;go_wp2_with fail;go_roundw
     case rel=>exact ⟨k+1,by omega,by go_num,hb2.out,own_left⟩
     case measure=>simp [intOf];omega
   ·have hkl:k=l.length:=by omega
    subst hkl;have d3:decide (l.length<l.length)=false:=by simp
    have hx:=hid (rowF_fine (p:=part) hl Hb.out);clear hlt;go_wp2_with fail
    all_goals
     go_returns;refine ⟨?_,own_left⟩;rw [hx.out];rfl
end Go.Proofs.YtkeommmigopnkaaGreatDoor
namespace Go.Proofs.YtkeommmigopnkaaGreatDoor
open Go.RowKit Go.Sx Go.Dl Go.Lk Go.Rq Go.Au
structure Tv where
 lev:Int
 off:Int
 per:Int
 dl:Int
 mem:Int
 ca:Option Addr
 cn:Nat
 cc:Nat
structure Lv where
 mem:Int
 ca:Option Addr
 cn:Nat
 cc:Nat
def Tv.cv (t:Tv):Value:=.slice t.ca t.cn t.cc
def Lv.cv (t:Lv):Value:=.slice t.ca t.cn t.cc
abbrev tv0:Tv:=⟨0,0,0,0,0,none,0,0⟩
abbrev lv0:Lv:=⟨0,none,0,0⟩
instance encTv:Enc Tv 6 where
 enc t:=[.int .i64 t.lev,.int .i64 t.off,.int .i64 t.per,.int .i64 t.dl,.int .i64 t.mem,.slice t.ca t.cn t.cc]
 len _:=rfl
 one t:=by intro u hu;simp at hu;rcases hu with rfl | rfl | rfl | rfl | rfl | rfl<;>rfl
 dft:=tv0
 pos:=by decide
instance encLv:Enc Lv 2 where
 enc t:=[.int .i64 t.mem,.slice t.ca t.cn t.cc]
 len _:=rfl
 one t:=by intro u hu;simp at hu;rcases hu with rfl | rfl<;>rfl
 dft:=lv0
 pos:=by decide
structure IsT (w:World) (v:Tv) (t:Tc):Prop where
 lev:v.lev=t.lev
 off:v.off=t.off
 per:v.per=t.per
 dl:v.dl=t.dl
 mem:v.mem=t.mem
 code:RdR w v.cv t.code
structure IsL (w:World) (v:Lv) (t:Lc):Prop where
 mem:v.mem=t.mem
 code:RdR w v.cv t.code
def RdTs (w:World) (v:Value) (ts:List Tc):Prop:=∃ l:List Tv,RdR w v l∧l.length=ts.length∧∀ t,t<ts.length→IsT w (l.getD t tv0) (ts.getD t tc0)
def RdLs (w:World) (v:Value) (ls:List Lc):Prop:=∃ l:List Lv,RdR w v l∧l.length=ls.length∧∀ t,t<ls.length→IsL w (l.getD t lv0) (ls.getD t lc0)
structure RdCf (w:World) (v:Value) (c:Cf):Prop where
 out:∃ tv lv sv qv mv,v=.agg #[tv,lv,.int .i64 c.mutexes,sv,qv,mv,.int .i64 c.table,.int .u32 c.mask,.int .u32 c.filter,.int .i64 c.charge,.int .u64 c.cycle,.int .u64 c.count]∧RdTs w tv c.ts∧RdLs w lv c.ls∧RdN .i64 w sv c.sems∧RdN .i64 w qv c.queues∧RdN .i64 w mv c.timers
theorem codeF_at {l:List Ins} {isr:Bool} {p i a:Int} {k:Nat} (hl:¬ 256<l.length) (hk:k<l.length) (h:codeBad l isr k=true) (hj:∀ j,j<k→codeBad l isr j=false):codeF l isr p i a=⟨checkE (insAt l k) l.length isr,p,i,a+1+k⟩:=by
 unfold codeF;rw [if_neg hl,firstOf_some hk h hj]
theorem codeF_fine {l:List Ins} {isr:Bool} {p i a:Int} (hl:¬ 256<l.length) (hj:∀ j,j<l.length→codeBad l isr j=false):codeF l isr p i a=ft0:=by
 unfold codeF;rw [if_neg hl,firstOf_all hj]
theorem confCode (v:Value) (l:List Ins) (isr:Bool) (e0 part idx a0 at_:Int) (hat:0≤at_∧at_≤100) (hk:∀ i∈l,rngW i.k) (w0:World) (hr:RdR w0 v l) :
  Calls Tryz.prog 88 #[v,.bool isr,.agg #[.int .i64 e0,.int .i64 part,.int .i64 idx,.int .i64 a0],.int .i64 at_] w0 (RetV w0 (ftV (codeF l isr part idx at_)) emp):=by
 have hs:=Sat.start w0;obtain ⟨a,cap,g,off,rfl,_,hcm,ha,hc⟩:=hr;have hat0:=hat.1;have hat1:=hat.2
 by_cases hl:256<l.length
 ·have hx:codeF l isr part idx at_=⟨4,part,idx,at_⟩:=by unfold codeF;rw [if_pos hl]
  rw [hx];have d1:decide (256<l.length)=true:=decide_eq_true hl;have d2:decide ((256:Int)<(l.length:Int))=true:=by simp;omega
  clear ha hc hx
  go_enter Tryz.func88,Tryz.ntmps88
  go_wp2_with fail;go_returns;exact ⟨rfl,own_left⟩
 ·have d1:decide (256<l.length)=false:=decide_eq_false hl;have d2:decide ((256:Int)<(l.length:Int))=false:=by simp;omega
  have Ha:=hid ha;have Hc:=hid hc;have Hk:=hid hk;clear ha hc hk
  go_enter Tryz.func88,Tryz.ntmps88
  go_wp2_with fail;refine wp_gen (w0:=w0) ?_;intro ww hsw;clear hs
  go_loopw [21] (fun i wr=>∃ k:Nat,k≤l.length∧i=.int .i64 k∧(∀ j,j<k→codeBad l isr j=false)∧Sat w0 wr (pts w0.heap.size 0 [.int .i64 e0,.int .i64 part,.int .i64 idx,.int .i64 at_]*(pts (w0.heap.size+1) 0 [.int .i64 0,.int .i64 0,.int .i64 0,.int .i64 0]*any))) (fun i _=>l.length-(intOf i).toNat)
  case atStart=>exact ⟨0,Nat.zero_le _,rfl,fun j hj=>absurd hj (by omega),own_left⟩
  case round =>
   obtain ⟨k,hk,rfl,hb,hsr⟩:=hrel;clear hsw;have Hb:=hid hb;clear hb
   by_cases hlt:k<l.length
   ·have d3:decide (k<l.length)=true:=decide_eq_true hlt;have i3:(k:Int)<(l.length:Int):=by omega
    obtain rfl:=Ha.out (by intro h;simp [h] at hlt);obtain ⟨i,hi⟩:∃ i,i=insAt l k:=⟨_,rfl⟩;have hgd:l.getD k ins0=i:=by rw [hi];rfl
    have hik:rngW i.k:=Hk.out i (by rw [hi];exact insAt_mem (by omega) (by omega));have hcb:codeBad l isr k=decide (checkE i l.length isr≠0):=by unfold codeBad;rw [← hi]
    have hbad:=hid fun h=>codeF_at (p:=part) (i:=idx) (a:=at_) hl hlt h Hb.out;rw [← hi] at hbad;have oc:∀ c u,c<6→(encIns.enc i)[c]?=some u→w0.cell? ⟨g,off+k*6+c,none⟩=some u:=fun c u hc6 he=>oldArr_at Hc.out hlt hc6 (by show (encIns.enc (l.getD k ins0))[c]?=some u;rw [hgd];exact he);haveI o0:Old w0 g (off+k*6) (.int .i64 i.op):=⟨oc 0 _ (by decide) rfl⟩;haveI o1:Old w0 g (off+k*6+1) (.int .i64 i.a):=⟨oc 1 _ (by decide) rfl⟩;haveI o2:Old w0 g (off+k*6+2) (.int .i64 i.b):=⟨oc 2 _ (by decide) rfl⟩;haveI o3:Old w0 g (off+k*6+3) (.int .i64 i.c):=⟨oc 3 _ (by decide) rfl⟩;haveI o4:Old w0 g (off+k*6+4) (.int .i64 i.d):=⟨oc 4 _ (by decide) rfl⟩;haveI o5:Old w0 g (off+k*6+5) (.int .u32 i.k):=⟨oc 5 _ (by decide) rfl⟩;obtain ⟨z,hz⟩:∃ z,z=checkE i l.length isr:=⟨_,rfl⟩;have hI:=hid (fun (w:World) (P:HP) (hs:Sat w0 w (pts w0.heap.size 0 [.int .i64 e0,.int .i64 part,.int .i64 idx,.int .i64 at_]*P))=>isaCheck i l.length isr z hz.symm hik w0 w _ hs);rw [← hz] at hbad hcb;clear oc hgd hi hik
    by_cases hz0:z=0
    ·subst hz0;have hb2:Hid (∀ j,j<k+1→codeBad l isr j=false):=hid fun j hj=>by
      rcases Nat.lt_or_ge j k with h | h
      ·exact Hb.out j h
      ·obtain rfl:j=k:=by omega
       rw [hcb];simp
     clear hz hcb hbad;go_wp2_with fail;refine (hI.out _ _ own).mono ?_;rintro en w1 ⟨rfl,hs1⟩;go_wp2_with fail;go_roundw
     case rel=>exact ⟨k+1,by omega,by go_num,hb2.out,own_left⟩
     case measure=>simp [intOf];omega
    ·have hx:=hid (hbad.out (by rw [hcb];simp [hz0]));have z1:(z != 0)=true:=by simp [hz0]
     rw [hx.out];clear hz hcb hbad hz0 hx;go_wp2_with fail;refine (hI.out _ _ own).mono ?_;rintro en w1 ⟨rfl,hs1⟩;go_wp2_with fail;go_returns;exact ⟨rfl,own_left⟩
   ·have hkl:k=l.length:=by omega
    subst hkl;have d3:decide (l.length<l.length)=false:=by simp
    have hx:=hid (codeF_fine (p:=part) (i:=idx) (a:=at_) hl Hb.out);clear hlt;go_wp2_with fail
    all_goals
     go_returns;refine ⟨?_,own_left⟩;rw [hx.out];rfl
theorem confTask (v:Tv) (t:Tc) (i:Nat) (hi:i<1000) (hk:∀ i∈t.code,rngW i.k) (w0:World) (hv:IsT w0 v t) :
  Calls Tryz.prog 87 #[.agg #[.int .i64 v.lev,.int .i64 v.off,.int .i64 v.per,.int .i64 v.dl,.int .i64 v.mem,.slice v.ca v.cn v.cc],.int .i64 i] w0 (RetV w0 (ftV (taskF t i)) emp):=by
 obtain ⟨h1,h2,h3,h4,h5,h6⟩:=hv;have hC:=hid (fun (w:World) (h:Sat w0 w emp)=>confCode v.cv t.code false 5 1 i 0 6 (by decide) hk w (h6.later h));rw [h1,h2,h3,h4,h5];clear h1 h2 h3 h4 h5 h6 hk;have hs:=Sat.start w0;unfold taskF
 cases g1:inR t.lev 0 31
 ·have hA:=hid (fun w=>confIn t.lev 0 31 false g1 w);clear g1 hC
  go_enter Tryz.func87,Tryz.ntmps87
  go_wp2_with fail;refine (hA.out _).mono ?_;rintro en w1 ⟨rfl,rfl⟩;go_wp2_with fail;go_returns;exact ⟨rfl,own_left⟩
 cases g2:inR t.off 1 1073741824
 ·have hA:=hid (fun w=>confIn t.lev 0 31 true g1 w);have hB:=hid (fun w=>confIn t.off 1 1073741824 false g2 w);clear g1 g2 hC
  go_enter Tryz.func87,Tryz.ntmps87
  go_wp2_with fail;refine (hA.out _).mono ?_;rintro en w1 ⟨rfl,rfl⟩;go_wp2_with fail;refine (hB.out _).mono ?_;rintro en w1 ⟨rfl,rfl⟩;go_wp2_with fail;go_returns;exact ⟨rfl,own_left⟩
 cases g3:inR t.per 0 1073741824
 ·have hA:=hid (fun w=>confIn t.lev 0 31 true g1 w);have hB:=hid (fun w=>confIn t.off 1 1073741824 true g2 w);have hD:=hid (fun w=>confIn t.per 0 1073741824 false g3 w);clear g1 g2 g3 hC
  go_enter Tryz.func87,Tryz.ntmps87
  go_wp2_with fail;refine (hA.out _).mono ?_;rintro en w1 ⟨rfl,rfl⟩;go_wp2_with fail;refine (hB.out _).mono ?_;rintro en w1 ⟨rfl,rfl⟩;go_wp2_with fail;refine (hD.out _).mono ?_;rintro en w1 ⟨rfl,rfl⟩;go_wp2_with fail;go_returns;exact ⟨rfl,own_left⟩
 cases g4:inR t.dl 0 1073741824
 ·have hA:=hid (fun w=>confIn t.lev 0 31 true g1 w);have hB:=hid (fun w=>confIn t.off 1 1073741824 true g2 w);have hD:=hid (fun w=>confIn t.per 0 1073741824 true g3 w);have hE:=hid (fun w=>confIn t.dl 0 1073741824 false g4 w);clear g1 g2 g3 g4 hC
  go_enter Tryz.func87,Tryz.ntmps87
  go_wp2_with fail;refine (hA.out _).mono ?_;rintro en w1 ⟨rfl,rfl⟩;go_wp2_with fail;refine (hB.out _).mono ?_;rintro en w1 ⟨rfl,rfl⟩;go_wp2_with fail;refine (hD.out _).mono ?_;rintro en w1 ⟨rfl,rfl⟩;go_wp2_with fail;refine (hE.out _).mono ?_;rintro en w1 ⟨rfl,rfl⟩;go_wp2_with fail;go_returns;exact ⟨rfl,own_left⟩
 cases g5:inR t.mem 0 256
 ·have hA:=hid (fun w=>confIn t.lev 0 31 true g1 w);have hB:=hid (fun w=>confIn t.off 1 1073741824 true g2 w);have hD:=hid (fun w=>confIn t.per 0 1073741824 true g3 w);have hE:=hid (fun w=>confIn t.dl 0 1073741824 true g4 w);have hF:=hid (fun w=>confIn t.mem 0 256 false g5 w);clear g1 g2 g3 g4 g5 hC
  go_enter Tryz.func87,Tryz.ntmps87
  go_wp2_with fail;refine (hA.out _).mono ?_;rintro en w1 ⟨rfl,rfl⟩;go_wp2_with fail;refine (hB.out _).mono ?_;rintro en w1 ⟨rfl,rfl⟩;go_wp2_with fail;refine (hD.out _).mono ?_;rintro en w1 ⟨rfl,rfl⟩;go_wp2_with fail;refine (hE.out _).mono ?_;rintro en w1 ⟨rfl,rfl⟩;go_wp2_with fail;refine (hF.out _).mono ?_;rintro en w1 ⟨rfl,rfl⟩;go_wp2_with fail;go_returns;exact ⟨rfl,own_left⟩
 ·have hA:=hid (fun w=>confIn t.lev 0 31 true g1 w);have hB:=hid (fun w=>confIn t.off 1 1073741824 true g2 w);have hD:=hid (fun w=>confIn t.per 0 1073741824 true g3 w);have hE:=hid (fun w=>confIn t.dl 0 1073741824 true g4 w);have hF:=hid (fun w=>confIn t.mem 0 256 true g5 w);clear g1 g2 g3 g4 g5;rw [if_neg (by simp),if_neg (by simp),if_neg (by simp),if_neg (by simp),if_neg (by simp)];generalize codeF t.code false 1 i 6=z at *
  go_enter Tryz.func87,Tryz.ntmps87
  go_wp2_with fail;refine (hA.out _).mono ?_;rintro en w1 ⟨rfl,rfl⟩;go_wp2_with fail;refine (hB.out _).mono ?_;rintro en w1 ⟨rfl,rfl⟩;go_wp2_with fail;refine (hD.out _).mono ?_;rintro en w1 ⟨rfl,rfl⟩;go_wp2_with fail;refine (hE.out _).mono ?_;rintro en w1 ⟨rfl,rfl⟩;go_wp2_with fail;refine (hF.out _).mono ?_;rintro en w1 ⟨rfl,rfl⟩;go_wp2_with fail;refine (hC.out _ own_left).mono ?_;rintro en w2 ⟨rfl,hs2⟩;have hs3:=Sat.past (w0:=w0) own_it hs2;clear hs2 hs;unfold ftV;go_wp2_with fail;go_returns;exact ⟨rfl,own_left⟩
theorem IsT.later {w0 w:World} {v:Tv} {t:Tc} {P:HP} (h:IsT w0 v t) (hs:Sat w0 w P):IsT w v t:=⟨h.lev,h.off,h.per,h.dl,h.mem,h.code.later hs⟩
theorem IsL.later {w0 w:World} {v:Lv} {t:Lc} {P:HP} (h:IsL w0 v t) (hs:Sat w0 w P):IsL w v t:=⟨h.mem,h.code.later hs⟩
theorem progF_task {c:Cf} {k:Nat} (hl:¬ 64<c.ts.length) (hk:k<c.ts.length) (h:¬ (taskF (tcg c k) k).err=0) (hj:∀ j,j<k→(taskF (tcg c j) j).err=0):programsF c=taskF (tcg c k) k:=by
 unfold programsF;rw [if_neg hl,firstOf_some hk (by unfold taskBad;simp [h]) (fun j hj2=>by unfold taskBad;simp [hj j hj2])]
theorem progF_lines {c:Cf} (hl:¬ 64<c.ts.length) (hj:∀ j,j<c.ts.length→(taskF (tcg c j) j).err=0):programsF c=linesF c:=by
 unfold programsF;rw [if_neg hl,firstOf_all (fun j hj2=>by unfold taskBad;simp [hj j hj2])]
theorem linesF_at {c:Cf} {k:Nat} (hl:¬ 16<c.ls.length) (hk:k<c.ls.length) (h:¬ (lineF (lcg c k) k).err=0) (hj:∀ j,j<k→(lineF (lcg c j) j).err=0):linesF c=lineF (lcg c k) k:=by
 unfold linesF;rw [if_neg hl,firstOf_some hk (by unfold lineBad;simp [h]) (fun j hj2=>by unfold lineBad;simp [hj j hj2])]
theorem linesF_fine {c:Cf} (hl:¬ 16<c.ls.length) (hj:∀ j,j<c.ls.length→(lineF (lcg c j) j).err=0):linesF c=ft0:=by
 unfold linesF;rw [if_neg hl,firstOf_all (fun j hj2=>by unfold lineBad;simp [hj j hj2])]
theorem confPrograms (v:Value) (c:Cf) (rg:CfRng c) (w0:World) (hr:RdCf w0 v c) :
  Calls Tryz.prog 52 #[v] w0 (RetV w0 (ftV (programsF c)) emp):=by
 have hs:=Sat.start w0;obtain ⟨tv,lv,sv,qv,mv,rfl,⟨T,hT,hTn,hTi⟩,⟨L,hL,hLn,hLi⟩,hS,hQ,hM⟩:=hr.out;clear hr;obtain ⟨sa,scap,_,_,rfl,_⟩:=hS;obtain ⟨qa,qcap,_,_,rfl,_⟩:=hQ;obtain ⟨ma,mcap,_,_,rfl,_⟩:=hM;obtain ⟨ta,tcap,tg,tto,rfl,_,_,hta,htc⟩:=hT;obtain ⟨la,lcap,lg',lo,rfl,_,_,hla,hlc⟩:=hL;rw [hTn,hLn];have Hta:=hid hta;have Htc:=hid htc;have Hla:=hid hla;have Hlc:=hid hlc;have HTn:=hid hTn;have HLn:=hid hLn;have HTi:=hid hTi;have HLi:=hid hLi;have Rg:=hid rg;clear hta htc hla hlc hTn hLn hTi hLi rg
 by_cases hl:64<c.ts.length
 ·have hx:programsF c=⟨4,1,0,0⟩:=by unfold programsF;rw [if_pos hl]
  rw [hx];have d1:decide (64<c.ts.length)=true:=decide_eq_true hl;have d2:decide ((64:Int)<(c.ts.length:Int))=true:=by simp;omega
  clear hx
  go_enter Tryz.func52,Tryz.ntmps52
  go_wp2_with fail;go_returns;exact ⟨rfl,own_left⟩
 ·have d1:decide (64<c.ts.length)=false:=decide_eq_false hl;have d2:decide ((64:Int)<(c.ts.length:Int))=false:=by simp;omega
  go_enter Tryz.func52,Tryz.ntmps52
  go_wp2_with fail;refine wp_gen (w0:=w0) ?_;intro ww hsw;clear hs
  go_loopw [18] (fun i wr=>∃ k:Nat,k≤c.ts.length∧i=.int .i64 k∧(∀ j,j<k→(taskF (tcg c j) j).err=0)∧Sat w0 wr (pts w0.heap.size 0 [.slice ta c.ts.length tcap,.slice la c.ls.length lcap,.int .i64 c.mutexes,.slice sa c.sems.length scap,.slice qa c.queues.length qcap,.slice ma c.timers.length mcap,.int .i64 c.table,.int .u32 c.mask,.int .u32 c.filter,.int .i64 c.charge,.int .u64 c.cycle,.int .u64 c.count]*(pts (w0.heap.size+1) 0 [.int .i64 0,.int .i64 0,.int .i64 0,.int .i64 0]*any))) (fun i _=>c.ts.length-(intOf i).toNat)
  case atStart=>exact ⟨0,Nat.zero_le _,rfl,fun j hj=>absurd hj (by omega),own_left⟩
  case round =>
   obtain ⟨k,hk,rfl,hb,hsr⟩:=hrel;clear hsw;have Hb:=hid hb;clear hb
   by_cases hlt:k<c.ts.length
   ·have d3:decide (k<c.ts.length)=true:=decide_eq_true hlt;have i3:(k:Int)<(c.ts.length:Int):=by omega
    have hTl:=HTn.out;obtain rfl:=Hta.out (by intro h;simp [h] at hTl;omega);have hit:=HTi.out k hlt;obtain ⟨u,hu⟩:∃ u,u=T.getD k tv0:=⟨_,rfl⟩;have oc:∀ c' y,c'<6→(encTv.enc u)[c']?=some y→w0.cell? ⟨tg,tto+k*6+c',none⟩=some y:=fun c' y hc6 he=>oldArr_at Htc.out (by omega) hc6 (by show (encTv.enc (T.getD k tv0))[c']?=some y;rw [← hu];exact he);rw [← hu] at hit;haveI o0:Old w0 tg (tto+k*6) (.int .i64 u.lev):=⟨oc 0 _ (by decide) rfl⟩;haveI o1:Old w0 tg (tto+k*6+1) (.int .i64 u.off):=⟨oc 1 _ (by decide) rfl⟩;haveI o2:Old w0 tg (tto+k*6+2) (.int .i64 u.per):=⟨oc 2 _ (by decide) rfl⟩;haveI o3:Old w0 tg (tto+k*6+3) (.int .i64 u.dl):=⟨oc 3 _ (by decide) rfl⟩;haveI o4:Old w0 tg (tto+k*6+4) (.int .i64 u.mem):=⟨oc 4 _ (by decide) rfl⟩;haveI o5:Old w0 tg (tto+k*6+5) (.slice u.ca u.cn u.cc):=⟨oc 5 _ (by decide) rfl⟩;obtain ⟨z,hz⟩:∃ z,z=taskF (tcg c k) k:=⟨_,rfl⟩;have hA:=hid (fun (w:World) (hs:Sat w0 w any)=>confTask u (tcg c k) k (by omega) (Rg.out.tk k hlt) w (hit.later hs));have hbad:=hid fun h=>progF_task hl hlt h Hb.out;rw [← hz] at hA hbad;unfold ftV at hA;clear oc hu hTl hit
    by_cases hz0:z.err=0
    ·have hb2:Hid (∀ j,j<k+1→(taskF (tcg c j) j).err=0):=hid fun j hj=>by
      rcases Nat.lt_or_ge j k with h | h
      ·exact Hb.out j h
      ·obtain rfl:j=k:=by omega
       rw [← hz];exact hz0
     clear hz hbad;go_wp2_with fail;refine (hA.out _ own_left).mono ?_;rintro en w1 ⟨rfl,hs1⟩;have hs2:=Sat.past (w0:=w0) own_it hs1;clear hs1 hsr;go_wp2_with fail;go_roundw
     case rel=>exact ⟨k+1,by omega,by go_num,hb2.out,own_left⟩
     case measure=>simp [intOf];omega
    ·have hx:=hid (hbad.out hz0);have z1:(z.err != 0)=true:=by simp [hz0]
     rw [hx.out];clear hz hbad hz0 hx;go_wp2_with fail;refine (hA.out _ own_left).mono ?_;rintro en w1 ⟨rfl,hs1⟩;have hs2:=Sat.past (w0:=w0) own_it hs1;clear hs1 hsr;go_wp2_with fail;go_returns;exact ⟨rfl,own_left⟩
   ·have hkl:k=c.ts.length:=by omega
    subst hkl;have d3:decide (c.ts.length<c.ts.length)=false:=by simp
    have hx1:=hid (progF_lines hl Hb.out);clear hlt hk
    by_cases hl2:16<c.ls.length
    ·have hx2:linesF c=⟨4,2,0,0⟩:=by unfold linesF;rw [if_pos hl2]
     have Hx:=hid (hx1.out.trans hx2);have d4:decide (16<c.ls.length)=true:=decide_eq_true hl2;have d5:decide ((16:Int)<(c.ls.length:Int))=true:=by simp;omega
     clear hx1 hx2;go_wp2_with fail
     all_goals
      go_returns;refine ⟨?_,own_left⟩;rw [Hx.out];rfl
    ·have d4:decide (16<c.ls.length)=false:=decide_eq_false hl2;have d5:decide ((16:Int)<(c.ls.length:Int))=false:=by simp;omega
     go_wp2_with fail;refine wp_gen (w0:=w0) ?_;intro w3 hs3;clear hsr
     go_loopw [39] (fun i wr=>∃ k:Nat,k≤c.ls.length∧i=.int .i64 k∧(∀ j,j<k→(lineF (lcg c j) j).err=0)∧Sat w0 wr (pts w0.heap.size 0 [.slice ta c.ts.length tcap,.slice la c.ls.length lcap,.int .i64 c.mutexes,.slice sa c.sems.length scap,.slice qa c.queues.length qcap,.slice ma c.timers.length mcap,.int .i64 c.table,.int .u32 c.mask,.int .u32 c.filter,.int .i64 c.charge,.int .u64 c.cycle,.int .u64 c.count]*(pts (w0.heap.size+1) 0 [.int .i64 0,.int .i64 0,.int .i64 0,.int .i64 0]*any))) (fun i _=>c.ls.length-(intOf i).toNat)
     case atStart=>exact ⟨0,Nat.zero_le _,rfl,fun j hj=>absurd hj (by omega),own_left⟩
     case round =>
      obtain ⟨k,hk,rfl,hb,hsr⟩:=hrel;clear hs3;have Hb2:=hid hb;clear hb
      by_cases hlt:k<c.ls.length
      ·have d6:decide (k<c.ls.length)=true:=decide_eq_true hlt;have i3:(k:Int)<(c.ls.length:Int):=by omega
       have hLl:=HLn.out;obtain rfl:=Hla.out (by intro h;simp [h] at hLl;omega);have hit:=HLi.out k hlt;obtain ⟨u,hu⟩:∃ u,u=L.getD k lv0:=⟨_,rfl⟩;have oc:∀ c' y,c'<2→(encLv.enc u)[c']?=some y→w0.cell? ⟨lg',lo+k*2+c',none⟩=some y:=fun c' y hc6 he=>oldArr_at Hlc.out (by omega) hc6 (by show (encLv.enc (L.getD k lv0))[c']?=some y;rw [← hu];exact he);rw [← hu] at hit;have hit:IsL w0 u (lcg c k):=hit;haveI o0:Old w0 lg' (lo+k*2) (.int .i64 (lcg c k).mem):=⟨by rw [← hit.mem];exact oc 0 _ (by decide) rfl⟩;haveI o1:Old w0 lg' (lo+k*2+1) (.slice u.ca u.cn u.cc):=⟨oc 1 _ (by decide) rfl⟩;obtain ⟨z,hz⟩:∃ z,z=lineF (lcg c k) k:=⟨_,rfl⟩;have hbad:=hid fun h=>linesF_at hl2 hlt h Hb2.out;rw [← hz] at hbad;have hC:=hid (fun (w:World) (h:Sat w0 w any)=>confCode u.cv (lcg c k).code true 5 2 k 1 2 (by decide) (Rg.out.lk k hlt) w (hit.code.later h));clear oc hu hLl hit
       cases g:inR (lcg c k).mem 0 256
       ·have hze:z=⟨5,2,k,1⟩:=by rw [hz];unfold lineF;rw [if_pos (by simp [g])]
        have hx:=hid (hx1.out.trans (hbad.out (by rw [hze];simp)));rw [hze] at hx;have hA:=hid (fun w=>confIn (lcg c k).mem 0 256 false g w);clear hz hbad g hze hC;go_wp2_with fail;refine (hA.out _).mono ?_;rintro en w1 ⟨rfl,rfl⟩;go_wp2_with fail;go_returns;refine ⟨?_,own_left⟩;rw [hx.out];rfl
       ·have hze:z=codeF (lcg c k).code true 2 k 2:=by rw [hz];unfold lineF;rw [if_neg (by simp [g])]
        have hA:=hid (fun w=>confIn (lcg c k).mem 0 256 true g w);rw [← hze] at hC;unfold ftV at hC;clear g hze
        by_cases hz0:z.err=0
        ·have hb2:Hid (∀ j,j<k+1→(lineF (lcg c j) j).err=0):=hid fun j hj=>by
          rcases Nat.lt_or_ge j k with h | h
          ·exact Hb2.out j h
          ·obtain rfl:j=k:=by omega
           rw [← hz];exact hz0
         clear hz hbad;go_wp2_with fail;refine (hA.out _).mono ?_;rintro en w1 ⟨rfl,rfl⟩;go_wp2_with fail;refine (hC.out _ own_left).mono ?_;rintro en w1 ⟨rfl,hs1⟩;have hs2:=Sat.past (w0:=w0) own_it hs1;clear hs1 hsr;go_wp2_with fail;go_roundw
         case rel=>exact ⟨k+1,by omega,by go_num,hb2.out,own_left⟩
         case measure=>simp [intOf];omega
        ·have hx:=hid (hx1.out.trans (hbad.out hz0));have z1:(z.err != 0)=true:=by simp [hz0]
         clear hz hbad hz0;go_wp2_with fail;refine (hA.out _).mono ?_;rintro en w1 ⟨rfl,rfl⟩;go_wp2_with fail;refine (hC.out _ own_left).mono ?_;rintro en w1 ⟨rfl,hs1⟩;have hs2:=Sat.past (w0:=w0) own_it hs1;clear hs1 hsr;go_wp2_with fail;go_returns;refine ⟨?_,own_left⟩;rw [hx.out];rfl
      ·have hkl:k=c.ls.length:=by omega
       subst hkl;have d6:decide (c.ls.length<c.ls.length)=false:=by simp
       have Hx:=hid (hx1.out.trans (linesF_fine hl2 Hb2.out));clear hlt hk hx1;go_wp2_with fail
       all_goals
        go_returns;refine ⟨?_,own_left⟩;rw [Hx.out];rfl
def part7 (c:Cf):Nat→Ft
 | 0=>numF (inR c.mutexes 0 32) 3
 | 1=>rowF c.sems 4 0 255
 | 2=>rowF c.queues 5 1 64
 | 3=>rowF c.timers 6 0 (c.sems.length-1)
 | 4=>numF (inR c.table 0 64) 7
 | 5=>numF (maskOk c) 8
 | _=>numF (inR c.charge 0 64) 9
def firstF (c:Cf):Nat→Ft
 | 0=>programsF c
 | n+1=>thenF (firstF c n) (part7 c n)
theorem RdTs.later {w0 w:World} {v:Value} {l:List Tc} {P:HP} (h:RdTs w0 v l) (hs:Sat w0 w P):RdTs w v l:=let ⟨T,a,b,d⟩:=h; ⟨T,a.later hs,b,fun t ht=>(d t ht).later hs⟩
theorem RdLs.later {w0 w:World} {v:Value} {l:List Lc} {P:HP} (h:RdLs w0 v l) (hs:Sat w0 w P):RdLs w v l:=let ⟨T,a,b,d⟩:=h; ⟨T,a.later hs,b,fun t ht=>(d t ht).later hs⟩
theorem RdCf.later {w0 w:World} {v:Value} {c:Cf} {P:HP} (h:RdCf w0 v c) (hs:Sat w0 w P):RdCf w v c:=let ⟨_,_,_,_,_,e,a,b,d,f,g⟩:=h.out; ⟨⟨_,_,_,_,_,e,a.later hs,b.later hs,d.later hs,f.later hs,g.later hs⟩⟩
theorem RdTs.form {w:World} {v:Value} {l:List Tc} (h:RdTs w v l):∃ a cap,v=.slice a l.length cap:=by
 obtain ⟨T,⟨a,cap,_,_,rfl,_⟩,e,_⟩:=h;exact ⟨a,cap,by rw [e]⟩
theorem RdLs.form {w:World} {v:Value} {l:List Lc} (h:RdLs w v l):∃ a cap,v=.slice a l.length cap:=by
 obtain ⟨T,⟨a,cap,_,_,rfl,_⟩,e,_⟩:=h;exact ⟨a,cap,by rw [e]⟩
theorem RdCf.form {w:World} {v:Value} {c:Cf} (h:RdCf w v c):∃ ta la sa qa ma tc lc sc qc mc,v=.agg #[.slice ta c.ts.length tc,.slice la c.ls.length lc,.int .i64 c.mutexes,.slice sa c.sems.length sc,.slice qa c.queues.length qc,.slice ma c.timers.length mc,.int .i64 c.table,.int .u32 c.mask,.int .u32 c.filter,.int .i64 c.charge,.int .u64 c.cycle,.int .u64 c.count]∧RdTs w (.slice ta c.ts.length tc) c.ts∧RdLs w (.slice la c.ls.length lc) c.ls∧RdN .i64 w (.slice sa c.sems.length sc) c.sems∧RdN .i64 w (.slice qa c.queues.length qc) c.queues∧RdN .i64 w (.slice ma c.timers.length mc) c.timers:=by
 obtain ⟨tv,lv,sv,qv,mv,rfl,h1,h2,h3,h4,h5⟩:=h.out;obtain ⟨ta,tc,rfl⟩:=h1.form;obtain ⟨la,lc,rfl⟩:=h2.form;have h3':=h3;have h4':=h4;have h5':=h5;obtain ⟨sa,sc,_,_,rfl,_⟩:=h3;obtain ⟨qa,qc,_,_,rfl,_⟩:=h4;obtain ⟨ma,mc,_,_,rfl,_⟩:=h5;exact ⟨ta,la,sa,qa,ma,tc,lc,sc,qc,mc,rfl,h1,h2,h3',h4',h5'⟩
@[go_sem] theorem index_ft0 (x0 x1 x2 x3 x4 x5 x6 x7 x8 x9 x10 x11 x12 x13 x14 x15 x16 x17 x18 x19 x20 x21 x22 x23 x24 x25 x26 x27:Value) (w:World):Sem.run Tryz.prog (Instr.index 137 (.agg #[x0,x1,x2,x3,x4,x5,x6,x7,x8,x9,x10,x11,x12,x13,x14,x15,x16,x17,x18,x19,x20,x21,x22,x23,x24,x25,x26,x27]) (.int .i64 0)) w=.ok (.agg #[x0,x1,x2,x3]) w:=by kernel_rfl
@[go_sem] theorem index_ft1 (x0 x1 x2 x3 x4 x5 x6 x7 x8 x9 x10 x11 x12 x13 x14 x15 x16 x17 x18 x19 x20 x21 x22 x23 x24 x25 x26 x27:Value) (w:World):Sem.run Tryz.prog (Instr.index 137 (.agg #[x0,x1,x2,x3,x4,x5,x6,x7,x8,x9,x10,x11,x12,x13,x14,x15,x16,x17,x18,x19,x20,x21,x22,x23,x24,x25,x26,x27]) (.int .i64 1)) w=.ok (.agg #[x4,x5,x6,x7]) w:=by kernel_rfl
@[go_sem] theorem index_ft2 (x0 x1 x2 x3 x4 x5 x6 x7 x8 x9 x10 x11 x12 x13 x14 x15 x16 x17 x18 x19 x20 x21 x22 x23 x24 x25 x26 x27:Value) (w:World):Sem.run Tryz.prog (Instr.index 137 (.agg #[x0,x1,x2,x3,x4,x5,x6,x7,x8,x9,x10,x11,x12,x13,x14,x15,x16,x17,x18,x19,x20,x21,x22,x23,x24,x25,x26,x27]) (.int .i64 2)) w=.ok (.agg #[x8,x9,x10,x11]) w:=by kernel_rfl
@[go_sem] theorem index_ft3 (x0 x1 x2 x3 x4 x5 x6 x7 x8 x9 x10 x11 x12 x13 x14 x15 x16 x17 x18 x19 x20 x21 x22 x23 x24 x25 x26 x27:Value) (w:World):Sem.run Tryz.prog (Instr.index 137 (.agg #[x0,x1,x2,x3,x4,x5,x6,x7,x8,x9,x10,x11,x12,x13,x14,x15,x16,x17,x18,x19,x20,x21,x22,x23,x24,x25,x26,x27]) (.int .i64 3)) w=.ok (.agg #[x12,x13,x14,x15]) w:=by kernel_rfl
@[go_sem] theorem index_ft4 (x0 x1 x2 x3 x4 x5 x6 x7 x8 x9 x10 x11 x12 x13 x14 x15 x16 x17 x18 x19 x20 x21 x22 x23 x24 x25 x26 x27:Value) (w:World):Sem.run Tryz.prog (Instr.index 137 (.agg #[x0,x1,x2,x3,x4,x5,x6,x7,x8,x9,x10,x11,x12,x13,x14,x15,x16,x17,x18,x19,x20,x21,x22,x23,x24,x25,x26,x27]) (.int .i64 4)) w=.ok (.agg #[x16,x17,x18,x19]) w:=by kernel_rfl
@[go_sem] theorem index_ft5 (x0 x1 x2 x3 x4 x5 x6 x7 x8 x9 x10 x11 x12 x13 x14 x15 x16 x17 x18 x19 x20 x21 x22 x23 x24 x25 x26 x27:Value) (w:World):Sem.run Tryz.prog (Instr.index 137 (.agg #[x0,x1,x2,x3,x4,x5,x6,x7,x8,x9,x10,x11,x12,x13,x14,x15,x16,x17,x18,x19,x20,x21,x22,x23,x24,x25,x26,x27]) (.int .i64 5)) w=.ok (.agg #[x20,x21,x22,x23]) w:=by kernel_rfl
@[go_sem] theorem index_ft6 (x0 x1 x2 x3 x4 x5 x6 x7 x8 x9 x10 x11 x12 x13 x14 x15 x16 x17 x18 x19 x20 x21 x22 x23 x24 x25 x26 x27:Value) (w:World):Sem.run Tryz.prog (Instr.index 137 (.agg #[x0,x1,x2,x3,x4,x5,x6,x7,x8,x9,x10,x11,x12,x13,x14,x15,x16,x17,x18,x19,x20,x21,x22,x23,x24,x25,x26,x27]) (.int .i64 6)) w=.ok (.agg #[x24,x25,x26,x27]) w:=by kernel_rfl
theorem confCheck (v:Value) (c:Cf) (rg:CfRng c) (w0:World) (hr:RdCf w0 v c) :
  Calls Tryz.prog 31 #[v] w0 (RetV w0 (ftV (confF c)) emp):=by
 have hs:=Sat.start w0;have hA:=hid (fun (w:World) (h:Sat w0 w any)=>confPrograms v c rg w (hr.later h));obtain ⟨ta,la,sa,qa,ma,tc,lc,sc,qc,mc,rfl,h1,h2,h3,h4,h5⟩:=hr.form;have hS:=hid (fun (w:World) (h:Sat w0 w any)=>confRow _ c.sems 4 0 255 w (h3.later h));have hQ:=hid (fun (w:World) (h:Sat w0 w any)=>confRow _ c.queues 5 1 64 w (h4.later h));have hM:=hid (fun (w:World) (h:Sat w0 w any)=>confRow _ c.timers 6 0 (c.sems.length-1) w (h5.later h));have hmu:=hid (fun w=>confIn c.mutexes 0 32 _ rfl w);have htb:=hid (fun w=>confIn c.table 0 64 _ rfl w);have hch:=hid (fun w=>confIn c.charge 0 64 _ rfl w);have hsl:=h3.len;obtain ⟨n,hnd⟩:∃ n:Nat,(c.ls.length≤16∧n=c.ls.length∨¬ c.ls.length≤16∧n=16):=⟨min c.ls.length 16,by omega⟩;have u1:IntKind.i64.wrap ((c.sems.length:Int)-1)=(c.sems.length:Int)-1:=by rw [IntKind.wrap_i64];unfold maxLen at hsl;omega
 clear hr h1 h2 h3 h4 h5 hsl
 rcases hnd with ⟨hn,rfl⟩ | ⟨hn,rfl⟩
 ·have d1:¬ ((16:Int)<(c.ls.length:Int)):=by omega
  have dm:(((c.mask:Int) / 2^c.ls.length)==0)=maskOk c:=by
   unfold maskOk;rw [Nat.min_eq_left hn,Nat.shiftRight_eq_div_pow,Bool.eq_iff_iff];simp only [beq_iff_eq,decide_eq_true_eq];have:((c.mask:Int) / 2^c.ls.length)=((c.mask / 2^c.ls.length:Nat):Int):=by simp
   rw [this];omega
  go_enter Tryz.func31,Tryz.ntmps31
  go_wp2_with fail;refine (hA.out _ own_left).mono ?_;rintro en w1 ⟨rfl,hs1⟩;have hs2:=Sat.past (w0:=w0) own_it hs1;clear hs1 hs;unfold ftV;go_wp2_with fail;refine wp_gen (w0:=w0) ?_;intro wx hsx;clear hs2;refine wp_region_early (fun w'=>Sat w0 w' (pts w0.heap.size 0 [.slice ta c.ts.length tc,.slice la c.ls.length lc,.int .i64 c.mutexes,.slice sa c.sems.length sc,.slice qa c.queues.length qc,.slice ma c.timers.length mc,.int .i64 c.table,.int .u32 c.mask,.int .u32 c.filter,.int .i64 c.charge,.int .u64 c.cycle,.int .u64 c.count]*any)) [(0,true),(1,true),(4,true),(5,true),(7,true),(8,true),(10,true),(11,true),(12,true),(13,true),(14,true),(15,true),(17,true),(18,true),(21,true),(22,true),(23,true),(24,true),(25,true),(26,true),(27,true),(28,true),(30,true),(31,true),(35,true),(2,false),(3,false),(6,false),(9,false),(16,false),(19,false),(20,false),(29,false),(32,false),(33,false),(34,true)] (by kernel_rfl) (by kernel_rfl) (fun _ _ _ _ h=>h) own_any ?_
  iterate 25 (first | refine early_S ?_ | refine early_N ?_)
  refine early_G rfl (by rfl) (fun K hK=>?_);go_wp2_with fail;refine (hmu.out _).mono ?_;rintro en w2 ⟨rfl,rfl⟩;go_wp2_with fail;refine ⟨own_any,?_⟩;refine early_G rfl (by rfl) (fun K hK=>?_);go_wp2_with fail;refine (confNumber _ _ _).mono ?_;rintro en w11 ⟨rfl,hq⟩;have hsy:=Sat.past (w0:=w0) own_it hq;clear hq hsx;have hsx:=hsy;clear hsy;unfold ftV;go_wp2_with fail;refine ⟨own_any,?_⟩;refine early_G rfl (by rfl) (fun K hK=>?_);go_wp2_with fail;refine (hS.out _ own_left).mono ?_;rintro en w12 ⟨rfl,hq⟩;have hsy:=Sat.past (w0:=w0) own_it hq;clear hq hsx;have hsx:=hsy;clear hsy;unfold ftV;go_wp2_with fail;refine ⟨own_any,?_⟩;refine early_G rfl (by rfl) (fun K hK=>?_);go_wp2_with fail;refine (hQ.out _ own_left).mono ?_;rintro en w13 ⟨rfl,hq⟩;have hsy:=Sat.past (w0:=w0) own_it hq;clear hq hsx;have hsx:=hsy;clear hsy;unfold ftV;go_wp2_with fail;refine ⟨own_any,?_⟩;refine early_G rfl (by rfl) (fun K hK=>?_);go_wp2_with fail;refine (hM.out _ own_left).mono ?_;rintro en w14 ⟨rfl,hq⟩;have hsy:=Sat.past (w0:=w0) own_it hq;clear hq hsx;have hsx:=hsy;clear hsy;unfold ftV;go_wp2_with fail;refine ⟨own_any,?_⟩;refine early_G rfl (by rfl) (fun K hK=>?_);go_wp2_with fail;refine (htb.out _).mono ?_;rintro en w2 ⟨rfl,rfl⟩;go_wp2_with fail;refine ⟨own_any,?_⟩;refine early_G rfl (by rfl) (fun K hK=>?_);go_wp2_with fail;refine (confNumber _ _ _).mono ?_;rintro en w16 ⟨rfl,hq⟩;have hsy:=Sat.past (w0:=w0) own_it hq;clear hq hsx;have hsx:=hsy;clear hsy;unfold ftV;go_wp2_with fail;refine ⟨own_any,?_⟩;refine early_G rfl (by rfl) (fun K hK=>?_);go_wp2_with fail;refine (confNumber _ _ _).mono ?_;rintro en w17 ⟨rfl,hq⟩;have hsy:=Sat.past (w0:=w0) own_it hq;clear hq hsx;have hsx:=hsy;clear hsy;unfold ftV;go_wp2_with fail;refine ⟨own_any,?_⟩;refine early_G rfl (by rfl) (fun K hK=>?_);go_wp2_with fail;refine (hch.out _).mono ?_;rintro en w2 ⟨rfl,rfl⟩;go_wp2_with fail;refine ⟨own_any,?_⟩;refine early_G rfl (by rfl) (fun K hK=>?_);go_wp2_with fail;refine (confNumber _ _ _).mono ?_;rintro en w19 ⟨rfl,hq⟩;have hsy:=Sat.past (w0:=w0) own_it hq;clear hq hsx;have hsx:=hsy;clear hsy;unfold ftV;go_wp2_with fail;refine ⟨own_any,?_⟩
  iterate 1 (first | refine early_S ?_ | refine early_N ?_)
  refine early_done ?_;go_wp2_with fail;refine wp_gen (w0:=w0) ?_;intro wl hsl;clear hsx
  go_loopw [43] (fun i wr=>∃ k:Nat,k≤7∧i=.int .i64 k∧Sat w0 wr (pts w1.heap.size 0 [.int .i64 (firstF c k).err,.int .i64 (firstF c k).part,.int .i64 (firstF c k).index,.int .i64 (firstF c k).at_]*(pts (w0.heap.size+1) 0 [.int .i64 0,.int .i64 0,.int .i64 0,.int .i64 0]*any))) (fun i _=>7-(intOf i).toNat)
  case atStart =>
   have hsl:Sat w0 wl (pts w1.heap.size 0 [.int .i64 (firstF c 0).err,.int .i64 (firstF c 0).part,.int .i64 (firstF c 0).index,.int .i64 (firstF c 0).at_]*(pts (w0.heap.size+1) 0 [.int .i64 0,.int .i64 0,.int .i64 0,.int .i64 0]*any)):=by unfold firstF;exact own_left
   exact ⟨0,by omega,rfl,hsl⟩
  case round =>
   obtain ⟨k,hk,rfl,hsr⟩:=hrel;clear hsl;have hk8:k=0∨k=1∨k=2∨k=3∨k=4∨k=5∨k=6∨k=7:=by omega
   rcases hk8 with rfl | rfl | rfl | rfl | rfl | rfl | rfl | rfl
   ·by_cases e:(firstF c 0).err=0
    ·have hx:Hid (firstF c 1=numF (inR c.mutexes 0 32) 3):=hid (if_pos e);go_wp2_with fail;go_roundw
     case rel=>exact ⟨1,by omega,rfl,by rw [hx.out];exact own_left⟩
     case measure=>simp [intOf]
    ·have hx:Hid (firstF c 1=firstF c 0):=hid (if_neg e);have e1:((firstF c 0).err==0)=false:=by simp [e]
     clear e;go_wp2_with fail;go_roundw
     case rel=>exact ⟨1,by omega,rfl,by rw [hx.out];exact own_left⟩
     case measure=>simp [intOf]
   ·by_cases e:(firstF c 1).err=0
    ·have hx:Hid (firstF c 2=rowF c.sems 4 0 255):=hid (if_pos e);go_wp2_with fail;go_roundw
     case rel=>exact ⟨2,by omega,rfl,by rw [hx.out];exact own_left⟩
     case measure=>simp [intOf]
    ·have hx:Hid (firstF c 2=firstF c 1):=hid (if_neg e);have e1:((firstF c 1).err==0)=false:=by simp [e]
     clear e;go_wp2_with fail;go_roundw
     case rel=>exact ⟨2,by omega,rfl,by rw [hx.out];exact own_left⟩
     case measure=>simp [intOf]
   ·by_cases e:(firstF c 2).err=0
    ·have hx:Hid (firstF c 3=rowF c.queues 5 1 64):=hid (if_pos e);go_wp2_with fail;go_roundw
     case rel=>exact ⟨3,by omega,rfl,by rw [hx.out];exact own_left⟩
     case measure=>simp [intOf]
    ·have hx:Hid (firstF c 3=firstF c 2):=hid (if_neg e);have e1:((firstF c 2).err==0)=false:=by simp [e]
     clear e;go_wp2_with fail;go_roundw
     case rel=>exact ⟨3,by omega,rfl,by rw [hx.out];exact own_left⟩
     case measure=>simp [intOf]
   ·by_cases e:(firstF c 3).err=0
    ·have hx:Hid (firstF c 4=rowF c.timers 6 0 (c.sems.length-1)):=hid (if_pos e);go_wp2_with fail;go_roundw
     case rel=>exact ⟨4,by omega,rfl,by rw [hx.out];exact own_left⟩
     case measure=>simp [intOf]
    ·have hx:Hid (firstF c 4=firstF c 3):=hid (if_neg e);have e1:((firstF c 3).err==0)=false:=by simp [e]
     clear e;go_wp2_with fail;go_roundw
     case rel=>exact ⟨4,by omega,rfl,by rw [hx.out];exact own_left⟩
     case measure=>simp [intOf]
   ·by_cases e:(firstF c 4).err=0
    ·have hx:Hid (firstF c 5=numF (inR c.table 0 64) 7):=hid (if_pos e);go_wp2_with fail;go_roundw
     case rel=>exact ⟨5,by omega,rfl,by rw [hx.out];exact own_left⟩
     case measure=>simp [intOf]
    ·have hx:Hid (firstF c 5=firstF c 4):=hid (if_neg e);have e1:((firstF c 4).err==0)=false:=by simp [e]
     clear e;go_wp2_with fail;go_roundw
     case rel=>exact ⟨5,by omega,rfl,by rw [hx.out];exact own_left⟩
     case measure=>simp [intOf]
   ·by_cases e:(firstF c 5).err=0
    ·have hx:Hid (firstF c 6=numF (maskOk c) 8):=hid (if_pos e);go_wp2_with fail;go_roundw
     case rel=>exact ⟨6,by omega,rfl,by rw [hx.out];exact own_left⟩
     case measure=>simp [intOf]
    ·have hx:Hid (firstF c 6=firstF c 5):=hid (if_neg e);have e1:((firstF c 5).err==0)=false:=by simp [e]
     clear e;go_wp2_with fail;go_roundw
     case rel=>exact ⟨6,by omega,rfl,by rw [hx.out];exact own_left⟩
     case measure=>simp [intOf]
   ·by_cases e:(firstF c 6).err=0
    ·have hx:Hid (firstF c 7=numF (inR c.charge 0 64) 9):=hid (if_pos e);go_wp2_with fail;go_roundw
     case rel=>exact ⟨7,by omega,rfl,by rw [hx.out];exact own_left⟩
     case measure=>simp [intOf]
    ·have hx:Hid (firstF c 7=firstF c 6):=hid (if_neg e);have e1:((firstF c 6).err==0)=false:=by simp [e]
     clear e;go_wp2_with fail;go_roundw
     case rel=>exact ⟨7,by omega,rfl,by rw [hx.out];exact own_left⟩
     case measure=>simp [intOf]
   ·go_wp2_with fail
    all_goals
     go_returns;exact ⟨rfl,own_left⟩
 ·have d1:((16:Int)<(c.ls.length:Int)):=by omega
  have dm:(((c.mask:Int) / 65536)==0)=maskOk c:=by
   unfold maskOk;rw [Nat.min_eq_right (by omega),Nat.shiftRight_eq_div_pow,Bool.eq_iff_iff];simp only [beq_iff_eq,decide_eq_true_eq];omega
  go_enter Tryz.func31,Tryz.ntmps31
  go_wp2_with fail;refine (hA.out _ own_left).mono ?_;rintro en w1 ⟨rfl,hs1⟩;have hs2:=Sat.past (w0:=w0) own_it hs1;clear hs1 hs;unfold ftV;go_wp2_with fail;refine wp_gen (w0:=w0) ?_;intro wx hsx;clear hs2;refine wp_region_early (fun w'=>Sat w0 w' (pts w0.heap.size 0 [.slice ta c.ts.length tc,.slice la c.ls.length lc,.int .i64 c.mutexes,.slice sa c.sems.length sc,.slice qa c.queues.length qc,.slice ma c.timers.length mc,.int .i64 c.table,.int .u32 c.mask,.int .u32 c.filter,.int .i64 c.charge,.int .u64 c.cycle,.int .u64 c.count]*any)) [(0,true),(1,true),(4,true),(5,true),(7,true),(8,true),(10,true),(11,true),(12,true),(13,true),(14,true),(15,true),(17,true),(18,true),(21,true),(22,true),(23,true),(24,true),(25,true),(26,true),(27,true),(28,true),(30,true),(31,true),(35,true),(2,false),(3,false),(6,false),(9,false),(16,false),(19,false),(20,false),(29,false),(32,false),(33,false),(34,true)] (by kernel_rfl) (by kernel_rfl) (fun _ _ _ _ h=>h) own_any ?_
  iterate 25 (first | refine early_S ?_ | refine early_N ?_)
  refine early_G rfl (by rfl) (fun K hK=>?_);go_wp2_with fail;refine (hmu.out _).mono ?_;rintro en w2 ⟨rfl,rfl⟩;go_wp2_with fail;refine ⟨own_any,?_⟩;refine early_G rfl (by rfl) (fun K hK=>?_);go_wp2_with fail;refine (confNumber _ _ _).mono ?_;rintro en w11 ⟨rfl,hq⟩;have hsy:=Sat.past (w0:=w0) own_it hq;clear hq hsx;have hsx:=hsy;clear hsy;unfold ftV;go_wp2_with fail;refine ⟨own_any,?_⟩;refine early_G rfl (by rfl) (fun K hK=>?_);go_wp2_with fail;refine (hS.out _ own_left).mono ?_;rintro en w12 ⟨rfl,hq⟩;have hsy:=Sat.past (w0:=w0) own_it hq;clear hq hsx;have hsx:=hsy;clear hsy;unfold ftV;go_wp2_with fail;refine ⟨own_any,?_⟩;refine early_G rfl (by rfl) (fun K hK=>?_);go_wp2_with fail;refine (hQ.out _ own_left).mono ?_;rintro en w13 ⟨rfl,hq⟩;have hsy:=Sat.past (w0:=w0) own_it hq;clear hq hsx;have hsx:=hsy;clear hsy;unfold ftV;go_wp2_with fail;refine ⟨own_any,?_⟩;refine early_G rfl (by rfl) (fun K hK=>?_);go_wp2_with fail;refine (hM.out _ own_left).mono ?_;rintro en w14 ⟨rfl,hq⟩;have hsy:=Sat.past (w0:=w0) own_it hq;clear hq hsx;have hsx:=hsy;clear hsy;unfold ftV;go_wp2_with fail;refine ⟨own_any,?_⟩;refine early_G rfl (by rfl) (fun K hK=>?_);go_wp2_with fail;refine (htb.out _).mono ?_;rintro en w2 ⟨rfl,rfl⟩;go_wp2_with fail;refine ⟨own_any,?_⟩;refine early_G rfl (by rfl) (fun K hK=>?_);go_wp2_with fail;refine (confNumber _ _ _).mono ?_;rintro en w16 ⟨rfl,hq⟩;have hsy:=Sat.past (w0:=w0) own_it hq;clear hq hsx;have hsx:=hsy;clear hsy;unfold ftV;go_wp2_with fail;refine ⟨own_any,?_⟩;refine early_G rfl (by rfl) (fun K hK=>?_);go_wp2_with fail;refine (confNumber _ _ _).mono ?_;rintro en w17 ⟨rfl,hq⟩;have hsy:=Sat.past (w0:=w0) own_it hq;clear hq hsx;have hsx:=hsy;clear hsy;unfold ftV;go_wp2_with fail;refine ⟨own_any,?_⟩;refine early_G rfl (by rfl) (fun K hK=>?_);go_wp2_with fail;refine (hch.out _).mono ?_;rintro en w2 ⟨rfl,rfl⟩;go_wp2_with fail;refine ⟨own_any,?_⟩;refine early_G rfl (by rfl) (fun K hK=>?_);go_wp2_with fail;refine (confNumber _ _ _).mono ?_;rintro en w19 ⟨rfl,hq⟩;have hsy:=Sat.past (w0:=w0) own_it hq;clear hq hsx;have hsx:=hsy;clear hsy;unfold ftV;go_wp2_with fail;refine ⟨own_any,?_⟩
  iterate 1 (first | refine early_S ?_ | refine early_N ?_)
  refine early_done ?_;go_wp2_with fail;refine wp_gen (w0:=w0) ?_;intro wl hsl;clear hsx
  go_loopw [43] (fun i wr=>∃ k:Nat,k≤7∧i=.int .i64 k∧Sat w0 wr (pts w1.heap.size 0 [.int .i64 (firstF c k).err,.int .i64 (firstF c k).part,.int .i64 (firstF c k).index,.int .i64 (firstF c k).at_]*(pts (w0.heap.size+1) 0 [.int .i64 0,.int .i64 0,.int .i64 0,.int .i64 0]*any))) (fun i _=>7-(intOf i).toNat)
  case atStart =>
   have hsl:Sat w0 wl (pts w1.heap.size 0 [.int .i64 (firstF c 0).err,.int .i64 (firstF c 0).part,.int .i64 (firstF c 0).index,.int .i64 (firstF c 0).at_]*(pts (w0.heap.size+1) 0 [.int .i64 0,.int .i64 0,.int .i64 0,.int .i64 0]*any)):=by unfold firstF;exact own_left
   exact ⟨0,by omega,rfl,hsl⟩
  case round =>
   obtain ⟨k,hk,rfl,hsr⟩:=hrel;clear hsl;have hk8:k=0∨k=1∨k=2∨k=3∨k=4∨k=5∨k=6∨k=7:=by omega
   rcases hk8 with rfl | rfl | rfl | rfl | rfl | rfl | rfl | rfl
   ·by_cases e:(firstF c 0).err=0
    ·have hx:Hid (firstF c 1=numF (inR c.mutexes 0 32) 3):=hid (if_pos e);go_wp2_with fail;go_roundw
     case rel=>exact ⟨1,by omega,rfl,by rw [hx.out];exact own_left⟩
     case measure=>simp [intOf]
    ·have hx:Hid (firstF c 1=firstF c 0):=hid (if_neg e);have e1:((firstF c 0).err==0)=false:=by simp [e]
     clear e;go_wp2_with fail;go_roundw
     case rel=>exact ⟨1,by omega,rfl,by rw [hx.out];exact own_left⟩
     case measure=>simp [intOf]
   ·by_cases e:(firstF c 1).err=0
    ·have hx:Hid (firstF c 2=rowF c.sems 4 0 255):=hid (if_pos e);go_wp2_with fail;go_roundw
     case rel=>exact ⟨2,by omega,rfl,by rw [hx.out];exact own_left⟩
     case measure=>simp [intOf]
    ·have hx:Hid (firstF c 2=firstF c 1):=hid (if_neg e);have e1:((firstF c 1).err==0)=false:=by simp [e]
     clear e;go_wp2_with fail;go_roundw
     case rel=>exact ⟨2,by omega,rfl,by rw [hx.out];exact own_left⟩
     case measure=>simp [intOf]
   ·by_cases e:(firstF c 2).err=0
    ·have hx:Hid (firstF c 3=rowF c.queues 5 1 64):=hid (if_pos e);go_wp2_with fail;go_roundw
     case rel=>exact ⟨3,by omega,rfl,by rw [hx.out];exact own_left⟩
     case measure=>simp [intOf]
    ·have hx:Hid (firstF c 3=firstF c 2):=hid (if_neg e);have e1:((firstF c 2).err==0)=false:=by simp [e]
     clear e;go_wp2_with fail;go_roundw
     case rel=>exact ⟨3,by omega,rfl,by rw [hx.out];exact own_left⟩
     case measure=>simp [intOf]
   ·by_cases e:(firstF c 3).err=0
    ·have hx:Hid (firstF c 4=rowF c.timers 6 0 (c.sems.length-1)):=hid (if_pos e);go_wp2_with fail;go_roundw
     case rel=>exact ⟨4,by omega,rfl,by rw [hx.out];exact own_left⟩
     case measure=>simp [intOf]
    ·have hx:Hid (firstF c 4=firstF c 3):=hid (if_neg e);have e1:((firstF c 3).err==0)=false:=by simp [e]
     clear e;go_wp2_with fail;go_roundw
     case rel=>exact ⟨4,by omega,rfl,by rw [hx.out];exact own_left⟩
     case measure=>simp [intOf]
   ·by_cases e:(firstF c 4).err=0
    ·have hx:Hid (firstF c 5=numF (inR c.table 0 64) 7):=hid (if_pos e);go_wp2_with fail;go_roundw
     case rel=>exact ⟨5,by omega,rfl,by rw [hx.out];exact own_left⟩
     case measure=>simp [intOf]
    ·have hx:Hid (firstF c 5=firstF c 4):=hid (if_neg e);have e1:((firstF c 4).err==0)=false:=by simp [e]
     clear e;go_wp2_with fail;go_roundw
     case rel=>exact ⟨5,by omega,rfl,by rw [hx.out];exact own_left⟩
     case measure=>simp [intOf]
   ·by_cases e:(firstF c 5).err=0
    ·have hx:Hid (firstF c 6=numF (maskOk c) 8):=hid (if_pos e);go_wp2_with fail;go_roundw
     case rel=>exact ⟨6,by omega,rfl,by rw [hx.out];exact own_left⟩
     case measure=>simp [intOf]
    ·have hx:Hid (firstF c 6=firstF c 5):=hid (if_neg e);have e1:((firstF c 5).err==0)=false:=by simp [e]
     clear e;go_wp2_with fail;go_roundw
     case rel=>exact ⟨6,by omega,rfl,by rw [hx.out];exact own_left⟩
     case measure=>simp [intOf]
   ·by_cases e:(firstF c 6).err=0
    ·have hx:Hid (firstF c 7=numF (inR c.charge 0 64) 9):=hid (if_pos e);go_wp2_with fail;go_roundw
     case rel=>exact ⟨7,by omega,rfl,by rw [hx.out];exact own_left⟩
     case measure=>simp [intOf]
    ·have hx:Hid (firstF c 7=firstF c 6):=hid (if_neg e);have e1:((firstF c 6).err==0)=false:=by simp [e]
     clear e;go_wp2_with fail;go_roundw
     case rel=>exact ⟨7,by omega,rfl,by rw [hx.out];exact own_left⟩
     case measure=>simp [intOf]
   ·go_wp2_with fail
    all_goals
     go_returns;exact ⟨rfl,own_left⟩
structure CfPlay (c:Cf):Prop where
 t:c.ts.length≤70
 l:c.ls.length≤20
 s:c.sems.length≤40
 q:c.queues.length≤40
 m:c.timers.length≤40
 tc:∀ t,t<c.ts.length→(tcg c t).code.length≤300
 lc:∀ t,t<c.ls.length→(lcg c t).code.length≤300
def RetB (w0:World) (P:HP) (Q:Prop) (e:Ending) (w':World):Prop:=∃ z:Bool,e=.returned (.bool z)∧Sat w0 w' P∧(z=false→Q)
theorem refGreat (v:Value) (c:Cf) (w0:World) (hr:RdCf w0 v c) :
  Calls Tryz.prog 30 #[v] w0 (RetB w0 emp (CfPlay c)):=by
 have hs:=Sat.start w0;obtain ⟨tv,lv,sv,qv,mv,rfl,⟨T,hT,hTn,hTi⟩,⟨L,hL,hLn,hLi⟩,hS,hQ,hM⟩:=hr.out;clear hr;obtain ⟨sa,scap,_,_,rfl,_⟩:=hS;obtain ⟨qa,qcap,_,_,rfl,_⟩:=hQ;obtain ⟨ma,mcap,_,_,rfl,_⟩:=hM;obtain ⟨ta,tcap,tg,tto,rfl,_,_,hta,htc⟩:=hT;obtain ⟨la,lcap,lg',lo,rfl,_,_,hla,hlc⟩:=hL;rw [hTn,hLn];have Hta:=hid hta;have Htc:=hid htc;have Hla:=hid hla;have Hlc:=hid hlc;have HTn:=hid hTn;have HLn:=hid hLn;have HTi:=hid hTi;have HLi:=hid hLi;clear hta htc hla hlc hTn hLn hTi hLi
 by_cases g1:70<c.ts.length
 ·have d1:decide (70<c.ts.length)=true:=decide_eq_true g1;have d2:decide ((70:Int)<(c.ts.length:Int))=true:=by simp;omega
  clear g1
  go_enter Tryz.func30,Tryz.ntmps30
  go_wp2_with fail;go_ret;exact ⟨true,rfl,own_left,fun h=>by cases h⟩
 have d1:decide (70<c.ts.length)=false:=decide_eq_false g1;have e1:decide ((70:Int)<(c.ts.length:Int))=false:=by simp;omega
 by_cases g2:20<c.ls.length
 ·have d2:decide (20<c.ls.length)=true:=decide_eq_true g2;have e2:decide ((20:Int)<(c.ls.length:Int))=true:=by simp;omega
  go_enter Tryz.func30,Tryz.ntmps30
  go_wp2_with fail;go_ret;exact ⟨true,rfl,own_left,fun h=>by cases h⟩
 have d2:decide (20<c.ls.length)=false:=decide_eq_false g2;have e2:decide ((20:Int)<(c.ls.length:Int))=false:=by simp;omega
 by_cases g3:40<c.sems.length
 ·have d3:decide (40<c.sems.length)=true:=decide_eq_true g3;have e3:decide ((40:Int)<(c.sems.length:Int))=true:=by simp;omega
  go_enter Tryz.func30,Tryz.ntmps30
  go_wp2_with fail;go_ret;exact ⟨true,rfl,own_left,fun h=>by cases h⟩
 have d3:decide (40<c.sems.length)=false:=decide_eq_false g3;have e3:decide ((40:Int)<(c.sems.length:Int))=false:=by simp;omega
 by_cases g4:40<c.queues.length
 ·have d4:decide (40<c.queues.length)=true:=decide_eq_true g4;have e4:decide ((40:Int)<(c.queues.length:Int))=true:=by simp;omega
  go_enter Tryz.func30,Tryz.ntmps30
  go_wp2_with fail;go_ret;exact ⟨true,rfl,own_left,fun h=>by cases h⟩
 have d4:decide (40<c.queues.length)=false:=decide_eq_false g4;have e4:decide ((40:Int)<(c.queues.length:Int))=false:=by simp;omega
 by_cases g5:40<c.timers.length
 ·have d5:decide (40<c.timers.length)=true:=decide_eq_true g5;have e5:decide ((40:Int)<(c.timers.length:Int))=true:=by simp;omega
  go_enter Tryz.func30,Tryz.ntmps30
  go_wp2_with fail;go_ret;exact ⟨true,rfl,own_left,fun h=>by cases h⟩
 have d5:decide (40<c.timers.length)=false:=decide_eq_false g5;have e5:decide ((40:Int)<(c.timers.length:Int))=false:=by simp;omega
 go_enter Tryz.func30,Tryz.ntmps30
 go_wp2_with fail;refine wp_gen (w0:=w0) ?_;intro ww hsw;clear hs
 go_loopw [3,4] (fun nv i wr=>∃ k n:Nat,k≤c.ts.length∧n≤300*k∧nv=.int .i64 n∧i=.int .i64 k∧(∀ j,j<k→(tcg c j).code.length≤300)∧Sat w0 wr (pts w0.heap.size 0 [.slice ta c.ts.length tcap,.slice la c.ls.length lcap,.int .i64 c.mutexes,.slice sa c.sems.length scap,.slice qa c.queues.length qcap,.slice ma c.timers.length mcap,.int .i64 c.table,.int .u32 c.mask,.int .u32 c.filter,.int .i64 c.charge,.int .u64 c.cycle,.int .u64 c.count]*any)) (fun _ i _=>c.ts.length-(intOf i).toNat)
 case atStart=>exact ⟨0,0,Nat.zero_le _,Nat.zero_le _,rfl,rfl,fun j hj=>absurd hj (by omega),own_left⟩
 case round =>
  obtain ⟨k,n,hk,hn,rfl,rfl,hb,hsr⟩:=hrel;clear hsw;have Hb:=hid hb;clear hb
  by_cases hlt:k<c.ts.length
  ·have f3:decide (k<c.ts.length)=true:=decide_eq_true hlt;have i3:(k:Int)<(c.ts.length:Int):=by omega
   have hTl:=HTn.out;obtain rfl:=Hta.out (by intro h;simp [h] at hTl;omega);have hit:=HTi.out k hlt;obtain ⟨u,hu⟩:∃ u,u=T.getD k tv0:=⟨_,rfl⟩;have oc:∀ c' y,c'<6→(encTv.enc u)[c']?=some y→w0.cell? ⟨tg,tto+k*6+c',none⟩=some y:=fun c' y hc6 he=>oldArr_at Htc.out (by omega) hc6 (by show (encTv.enc (T.getD k tv0))[c']?=some y;rw [← hu];exact he);rw [← hu] at hit;have hcl:u.cn=(tcg c k).code.length:=hit.code.caps.1;haveI o5:Old w0 tg (tto+k*6+5) (.slice u.ca u.cn u.cc):=⟨oc 5 _ (by decide) rfl⟩;clear oc hu hTl hit
   by_cases hz0:300<u.cn
   ·have f4:decide (300<u.cn)=true:=decide_eq_true hz0;have i4:decide ((300:Int)<(u.cn:Int))=true:=by simp;omega
    clear hcl;go_wp2_with fail;go_ret;exact ⟨true,rfl,own_left,fun h=>by cases h⟩
   ·have f4:decide (300<u.cn)=false:=decide_eq_false hz0;have i4:decide ((300:Int)<(u.cn:Int))=false:=by simp;omega
    have hb2:Hid (∀ j,j<k+1→(tcg c j).code.length≤300):=hid fun j hj=>by
     rcases Nat.lt_or_ge j k with h | h
     ·exact Hb.out j h
     ·obtain rfl:j=k:=by omega
      omega
    clear hcl;go_wp2_with fail;go_roundw
    case rel=>exact ⟨k+1,n+u.cn,by omega,by omega,by go_num,by go_num,hb2.out,own_left⟩
    case measure=>simp [intOf];omega
  ·have hkl:k=c.ts.length:=by omega
   subst hkl;have f3:decide (c.ts.length<c.ts.length)=false:=by simp
   clear hlt hk;go_wp2_with fail;refine wp_gen (w0:=w0) ?_;intro w3 hs3;clear hsr
   go_loopw [3,5] (fun nv i wr=>∃ k n:Nat,k≤c.ls.length∧n≤300*70+300*k∧nv=.int .i64 n∧i=.int .i64 k∧(∀ j,j<k→(lcg c j).code.length≤300)∧Sat w0 wr (pts w0.heap.size 0 [.slice ta c.ts.length tcap,.slice la c.ls.length lcap,.int .i64 c.mutexes,.slice sa c.sems.length scap,.slice qa c.queues.length qcap,.slice ma c.timers.length mcap,.int .i64 c.table,.int .u32 c.mask,.int .u32 c.filter,.int .i64 c.charge,.int .u64 c.cycle,.int .u64 c.count]*any)) (fun _ i _=>c.ls.length-(intOf i).toNat)
   case atStart=>exact ⟨0,n,Nat.zero_le _,by omega,rfl,rfl,fun j hj=>absurd hj (by omega),own_left⟩
   case round =>
    obtain ⟨k,n,hk,hn,rfl,rfl,hb,hsr⟩:=hrel;clear hs3;have Hb2:=hid hb;clear hb
    by_cases hlt:k<c.ls.length
    ·have f3:decide (k<c.ls.length)=true:=decide_eq_true hlt;have i3:(k:Int)<(c.ls.length:Int):=by omega
     have hLl:=HLn.out;obtain rfl:=Hla.out (by intro h;simp [h] at hLl;omega);have hit:=HLi.out k hlt;obtain ⟨u,hu⟩:∃ u,u=L.getD k lv0:=⟨_,rfl⟩;have oc:∀ c' y,c'<2→(encLv.enc u)[c']?=some y→w0.cell? ⟨lg',lo+k*2+c',none⟩=some y:=fun c' y hc6 he=>oldArr_at Hlc.out (by omega) hc6 (by show (encLv.enc (L.getD k lv0))[c']?=some y;rw [← hu];exact he);rw [← hu] at hit;have hcl:u.cn=(lcg c k).code.length:=hit.code.caps.1;haveI o5:Old w0 lg' (lo+k*2+1) (.slice u.ca u.cn u.cc):=⟨oc 1 _ (by decide) rfl⟩;clear oc hu hLl hit
     by_cases hz0:300<u.cn
     ·have f4:decide (300<u.cn)=true:=decide_eq_true hz0;have i4:decide ((300:Int)<(u.cn:Int))=true:=by simp;omega
      clear hcl;go_wp2_with fail;go_ret;exact ⟨true,rfl,own_left,fun h=>by cases h⟩
     ·have f4:decide (300<u.cn)=false:=decide_eq_false hz0;have i4:decide ((300:Int)<(u.cn:Int))=false:=by simp;omega
      have hb2:Hid (∀ j,j<k+1→(lcg c j).code.length≤300):=hid fun j hj=>by
       rcases Nat.lt_or_ge j k with h | h
       ·exact Hb2.out j h
       ·obtain rfl:j=k:=by omega
        omega
      clear hcl;go_wp2_with fail;go_roundw
      case rel=>exact ⟨k+1,n+u.cn,by omega,by omega,by go_num,by go_num,hb2.out,own_left⟩
      case measure=>simp [intOf];omega
    ·have hkl:k=c.ls.length:=by omega
     subst hkl;have f3:decide (c.ls.length<c.ls.length)=false:=by simp
     clear hlt hk;go_wp2_with fail;go_ret;exact ⟨_,rfl,own_left,fun _=>⟨by omega,by omega,by omega,by omega,by omega,Hb.out,Hb2.out⟩⟩
theorem lawGreat (v:Value) (c:Cf) (n:Int) (w0:World) (hr:RdCf w0 v c) :
  Calls Tryz.prog 18 #[v,.int .i64 n] w0 (RetB w0 emp (CfPlay c∧n≤200)):=by
 have hs:=Sat.start w0;have hA:=hid (fun (w:World) (h:Sat w0 w any)=>refGreat v c w (hr.later h));obtain ⟨tv,lv,sv,qv,mv,rfl,⟨T,hT,hTn,hTi⟩,⟨L,hL,hLn,hLi⟩,hS,hQ,hM⟩:=hr.out;clear hr;obtain ⟨sa,scap,_,_,rfl,_⟩:=hS;obtain ⟨qa,qcap,_,_,rfl,_⟩:=hQ;obtain ⟨ma,mcap,_,_,rfl,_⟩:=hM;obtain ⟨ta,tcap,tg,tto,rfl,_,_,hta,htc⟩:=hT;obtain ⟨la,lcap,lg',lo,rfl,_,_,hla,hlc⟩:=hL;rw [hTn,hLn] at hA;rw [hTn,hLn];have Hta:=hid hta;have Htc:=hid htc;have Hla:=hid hla;have Hlc:=hid hlc;have HTn:=hid hTn;have HLn:=hid hLn;have HTi:=hid hTi;have HLi:=hid hLi;clear hta htc hla hlc hTn hLn hTi hLi
 go_enter Tryz.func18,Tryz.ntmps18
 go_wp2_with fail;refine (hA.out _ own_left).mono ?_;rintro en w1 ⟨z,rfl,hs1,hz⟩;have hs2:=Sat.past (w0:=w0) own_it hs1;have Hz:=hid hz;clear hs1 hs hz hA
 cases z
 case true =>
  go_wp2_with fail;go_ret;exact ⟨true,rfl,own_left,fun h=>by cases h⟩
 case false =>
  have hp:=Hz.out rfl;have g1:=hp.t;have g2:=hp.l;have Hp:=hid hp;clear hp Hz;go_wp2_with fail;refine wp_gen (w0:=w0) ?_;intro ww hsw;clear hs2
  go_loopw [5,15] (fun nv i wr=>∃ k m:Nat,k≤c.ts.length∧m≤1000*k∧nv=.int .i64 m∧i=.int .i64 k∧Sat w0 wr (pts w0.heap.size 0 [.slice ta c.ts.length tcap,.slice la c.ls.length lcap,.int .i64 c.mutexes,.slice sa c.sems.length scap,.slice qa c.queues.length qcap,.slice ma c.timers.length mcap,.int .i64 c.table,.int .u32 c.mask,.int .u32 c.filter,.int .i64 c.charge,.int .u64 c.cycle,.int .u64 c.count]*any)) (fun _ i _=>c.ts.length-(intOf i).toNat)
  case atStart=>exact ⟨0,0,Nat.zero_le _,Nat.zero_le _,rfl,rfl,own_left⟩
  case round =>
   obtain ⟨k,m,hk,hm,rfl,rfl,hsr⟩:=hrel;clear hsw
   by_cases hlt:k<c.ts.length
   ·have f3:decide (k<c.ts.length)=true:=decide_eq_true hlt;have i3:(k:Int)<(c.ts.length:Int):=by omega
    have hTl:=HTn.out;obtain rfl:=Hta.out (by intro h;simp [h] at hTl;omega);obtain ⟨u,hu⟩:∃ u,u=T.getD k tv0:=⟨_,rfl⟩;have oc:∀ c' y,c'<6→(encTv.enc u)[c']?=some y→w0.cell? ⟨tg,tto+k*6+c',none⟩=some y:=fun c' y hc6 he=>oldArr_at Htc.out (by omega) hc6 (by show (encTv.enc (T.getD k tv0))[c']?=some y;rw [← hu];exact he);haveI o0:Old w0 tg (tto+k*6) (.int .i64 u.lev):=⟨oc 0 _ (by decide) rfl⟩;haveI o1:Old w0 tg (tto+k*6+1) (.int .i64 u.off):=⟨oc 1 _ (by decide) rfl⟩;haveI o2:Old w0 tg (tto+k*6+2) (.int .i64 u.per):=⟨oc 2 _ (by decide) rfl⟩;haveI o3:Old w0 tg (tto+k*6+3) (.int .i64 u.dl):=⟨oc 3 _ (by decide) rfl⟩;haveI o4:Old w0 tg (tto+k*6+4) (.int .i64 u.mem):=⟨oc 4 _ (by decide) rfl⟩;haveI o5:Old w0 tg (tto+k*6+5) (.slice u.ca u.cn u.cc):=⟨oc 5 _ (by decide) rfl⟩;clear oc hu hTl;have hq:∀ x:Int,0≤(if 1000<(if x<0 then 0 else x) then 1000 else if x<0 then 0 else x)∧(if 1000<(if x<0 then 0 else x) then 1000 else if x<0 then 0 else x)≤1000:=fun x=>by split<;>split<;>omega
    have Hq:=hid (hq u.mem);clear hq;go_wp2_with fail;have Hq:=Hq.out;generalize (if 1000<(if u.mem<0 then 0 else u.mem) then (1000:Int) else if u.mem<0 then 0 else u.mem)=q at *;obtain ⟨q,rfl⟩:=Int.eq_ofNat_of_zero_le Hq.1;refine ⟨⟨k+1,m+q,by omega,by omega,by go_num,by go_num,own_left⟩,?_⟩;simp [intOf];omega
   ·have hkl:k=c.ts.length:=by omega
    subst hkl;have f3:decide (c.ts.length<c.ts.length)=false:=by simp
    clear hlt hk;go_wp2_with fail;refine wp_gen (w0:=w0) ?_;intro w3 hs3;clear hsr
    go_loopw [5,29] (fun nv i wr=>∃ k m:Nat,k≤c.ls.length∧m≤70000+1000*k∧nv=.int .i64 m∧i=.int .i64 k∧Sat w0 wr (pts w0.heap.size 0 [.slice ta c.ts.length tcap,.slice la c.ls.length lcap,.int .i64 c.mutexes,.slice sa c.sems.length scap,.slice qa c.queues.length qcap,.slice ma c.timers.length mcap,.int .i64 c.table,.int .u32 c.mask,.int .u32 c.filter,.int .i64 c.charge,.int .u64 c.cycle,.int .u64 c.count]*any)) (fun _ i _=>c.ls.length-(intOf i).toNat)
    case atStart=>exact ⟨0,m,Nat.zero_le _,by omega,rfl,rfl,own_left⟩
    case round =>
     obtain ⟨k,m,hk,hm,rfl,rfl,hsr⟩:=hrel;clear hs3
     by_cases hlt:k<c.ls.length
     ·have f3:decide (k<c.ls.length)=true:=decide_eq_true hlt;have i3:(k:Int)<(c.ls.length:Int):=by omega
      have hLl:=HLn.out;obtain rfl:=Hla.out (by intro h;simp [h] at hLl;omega);obtain ⟨u,hu⟩:∃ u,u=L.getD k lv0:=⟨_,rfl⟩;have oc:∀ c' y,c'<2→(encLv.enc u)[c']?=some y→w0.cell? ⟨lg',lo+k*2+c',none⟩=some y:=fun c' y hc6 he=>oldArr_at Hlc.out (by omega) hc6 (by show (encLv.enc (L.getD k lv0))[c']?=some y;rw [← hu];exact he);haveI o0:Old w0 lg' (lo+k*2) (.int .i64 u.mem):=⟨oc 0 _ (by decide) rfl⟩;haveI o1:Old w0 lg' (lo+k*2+1) (.slice u.ca u.cn u.cc):=⟨oc 1 _ (by decide) rfl⟩;clear oc hu hLl;have hq:∀ x:Int,0≤(if 1000<(if x<0 then 0 else x) then 1000 else if x<0 then 0 else x)∧(if 1000<(if x<0 then 0 else x) then 1000 else if x<0 then 0 else x)≤1000:=fun x=>by split<;>split<;>omega
      have Hq:=hid (hq u.mem);clear hq;go_wp2_with fail;have Hq:=Hq.out;generalize (if 1000<(if u.mem<0 then 0 else u.mem) then (1000:Int) else if u.mem<0 then 0 else u.mem)=q at *;obtain ⟨q,rfl⟩:=Int.eq_ofNat_of_zero_le Hq.1;refine ⟨⟨k+1,m+q,by omega,by omega,by go_num,by go_num,own_left⟩,?_⟩;simp [intOf];omega
     ·have hkl:k=c.ls.length:=by omega
      subst hkl;have f3:decide (c.ls.length<c.ls.length)=false:=by simp
      clear hlt hk
      by_cases hn:200<n
      ·have f4:decide (200<n)=true:=decide_eq_true hn;go_wp2_with fail;go_ret;exact ⟨true,rfl,own_left,fun h=>by cases h⟩
      ·have f4:decide (200<n)=false:=decide_eq_false hn;go_wp2_with fail;go_ret
       first | exact ⟨_,rfl,own_left,fun _=>Hp.out⟩ | exact ⟨_,rfl,own_left,fun _=>⟨Hp.out,by omega⟩⟩
end Go.Proofs.YtkeommmigopnkaaGreatDoor
