/-
  Parts of the proof: AdM AccJ EvA EvB AdC AdD AdE AdF AdG AdH AdI AdJ AdK.
-/
import Derived.Handy
import Derived.Test.YtgiiidminlhbpaaGreatDoorKD0
import Derived.Test.YtgiiidminlhbpaaGreatDoorKD1
import Derived.Test.YtgiiidminlhbpaaGreatDoorKD5
import Derived.Test.YtgiiidminlhbpaaGreatDoorKD16
set_option linter.unusedVariables false
set_option linter.unusedSimpArgs false
set_option maxHeartbeats 32000000
set_option maxRecDepth 100000
namespace Go.Au
structure zvT (t:Tk):Prop where
 st:0≤t.st∧t.st≤3
 late:0≤t.late∧t.late≤255
 on:t.on<160
 job:t.job<4294967296
 lev:0≤t.lev∧t.lev≤32
theorem AOk.tk {A:Au} (h:AOk A):∀ t∈A.ts,zvT t:=fun t ht=>⟨h.st t ht,h.late t ht,h.on t ht,h.job t ht,h.lev t ht⟩
theorem zw8:zvT tk0:=⟨by decide,by decide,by decide,by decide,by decide⟩
theorem AOk.at_ {A:Au} (h:AOk A) (x:Nat):zvT (z4y A x):=by
 unfold z4y tkg
 by_cases hx:x<A.ts.length
 ·have e:A.ts.getD x tk0=A.ts[x]:=by simp [List.getD,hx]
  rw [e];exact h.tk _ (List.getElem_mem hx)
 ·have e:A.ts.getD x tk0=tk0:=by simp [List.getD,List.getElem?_eq_none (by omega:A.ts.length≤x)]
  rw [e];exact zw8
theorem AOk.setT {A:Au} (h:AOk A) (x:Nat) {t:Tk} (ht:zvT t):AOk (setT A x t):=by
 have hm:∀ u∈A.ts.set x t,zvT u:=fun u hu=>by
  rcases List.mem_or_eq_of_mem_set hu with h1 | rfl
  ·exact h.tk u h1
  ·exact ht
 exact ⟨by simp [Au.setT,h.lt],h.lo,h.lp,fun u hu=>(hm u hu).st,fun u hu=>(hm u hu).late,fun u hu=>(hm u hu).on,fun u hu=>(hm u hu).job,fun u hu=>(hm u hu).lev,h.own,h.isr,h.run,h.co,h.cy,h.dk,h.da,h.db,h.dz⟩
theorem AOk.setDue {A:Au} (h:AOk A) {d:Du} (h1:1≤d.k∧d.k≤24) (h2:d.a<256) (h3:d.b<256):AOk { A with due:=d } :=
 ⟨h.lt,h.lo,h.lp,h.st,h.late,h.on,h.job,h.lev,h.own,h.isr,h.run,h.co,h.cy,⟨Int.le_trans (by decide) h1.1,h1.2⟩,h2,h3,fun (e:d.k=0)=>by omega⟩
theorem AOk.noDue {A:Au} (h:AOk A):AOk { A with due:=du0 } :=
 ⟨h.lt,h.lo,h.lp,h.st,h.late,h.on,h.job,h.lev,h.own,h.isr,h.run,h.co,h.cy,show (0:Int)≤0∧(0:Int)≤24 by decide,show (0:Nat)<256 by decide,show (0:Nat)<256 by decide,fun _=>rfl⟩
theorem AOk.setOw {A:Au} (h:AOk A) (y:Nat) {o:Int} (ho:0≤o∧o≤64):AOk { A with ow:=A.ow.set y o } :=
 ⟨h.lt,by simp [h.lo],h.lp,h.st,h.late,h.on,h.job,h.lev,fun x hx=>by
  rcases List.mem_or_eq_of_mem_set hx with h1 | rfl
  ·exact h.own x h1
  ·exact ho,h.isr,h.run,h.co,h.cy,h.dk,h.da,h.db,h.dz⟩
theorem AOk.setPn {A:Au} (h:AOk A) (y:Nat) (x:Bool):AOk { A with pn:=A.pn.set y x } :=
 ⟨h.lt,h.lo,by simp [h.lp],h.st,h.late,h.on,h.job,h.lev,h.own,h.isr,h.run,h.co,h.cy,h.dk,h.da,h.db,h.dz⟩
theorem AOk.setIsr {A:Au} (h:AOk A) {x:Int} (hx:0≤x∧x≤16):AOk { A with isr:=x } :=
 ⟨h.lt,h.lo,h.lp,h.st,h.late,h.on,h.job,h.lev,h.own,hx,h.run,h.co,h.cy,h.dk,h.da,h.db,h.dz⟩
theorem AOk.setRun {A:Au} (h:AOk A) {x:Int} (hx:0≤x∧x≤64):AOk { A with run:=x } :=
 ⟨h.lt,h.lo,h.lp,h.st,h.late,h.on,h.job,h.lev,h.own,h.isr,hx,h.co,h.cy,h.dk,h.da,h.db,h.dz⟩
theorem zuo {A:Au} (h:AOk A) (k a b v:Nat) (hk:1≤k∧k≤24) (hok:okN k a b v=true) (hv:VOk k v):AOk (znq A k a b v):=by
 have ht:=h.at_ a;have hk':k=1∨k=2∨k=3∨k=4∨k=5∨k=6∨k=7∨k=8∨k=9∨k=10∨k=11∨k=12∨k=13∨k=14∨k=15∨k=16∨k=17∨k=18∨k=19∨k=20∨k=21∨k=22∨k=23∨k=24:=by omega
 rcases hk' with rfl | rfl | rfl | rfl | rfl | rfl | rfl | rfl | rfl | rfl | rfl | rfl | rfl | rfl | rfl | rfl | rfl | rfl | rfl | rfl | rfl | rfl | rfl | rfl
 ·exact h.setPn a true
 ·exact h
 ·have ha:a<16:=by simp [okN,shp,win] at hok;omega
  exact (h.setPn a false).setIsr (x:=(a:Int)+1) (by omega)
 ·exact h.setIsr (x:=0) (by omega)
 ·have ha:a<64∨a=255:=by simp [okN,shp,win] at hok;omega
  exact h.setRun (x:=if a=255 then 0 else (a:Int)+1) (by split<;>omega)
 ·have hl:=ht.late;exact h.setT a ⟨show (0:Int)≤1∧(1:Int)≤3 by decide,show 0≤max ((z4y A a).late-1) 0∧max ((z4y A a).late-1) 0≤255 by omega,ht.on,hv (by decide),ht.lev⟩
 ·have hv:v≤255:=by simp [okN,shp,win] at hok;omega
  exact h.setT a ⟨ht.st,show (0:Int)≤v∧(v:Int)≤255 by omega,ht.on,ht.job,ht.lev⟩
 ·have ha:a<64:=by simp [okN,shp,win] at hok;omega
  have h1:AOk (setT A a { z4y A a with st:=0 }):=h.setT a ⟨show (0:Int)≤0∧(0:Int)≤3 by decide,ht.late,ht.on,ht.job,ht.lev⟩
  by_cases hl:(z4y A a).late > 0
  ·have e:znq A 8 a b v={ setT A a { z4y A a with st:=0 } with due:=⟨6,a,0⟩ }:=by simp only [znq];rw [if_pos hl]
   rw [e];exact h1.setDue (d:=⟨6,a,0⟩) (show (1:Int)≤6∧(6:Int)≤24 by decide) (by show a<256;omega) (show (0:Nat)<256 by decide)
  ·have e:znq A 8 a b v=setT A a { z4y A a with st:=0 }:=by simp only [znq];rw [if_neg hl];rfl
   rw [e];exact h1
 ·have hb:b<160:=by simp [okN,shp,win] at hok;omega
  exact h.setT a ⟨show (0:Int)≤2∧(2:Int)≤3 by decide,ht.late,hb,ht.job,ht.lev⟩
 ·have ha:a<64:=by simp [okN,shp,win] at hok;omega
  have h1:AOk (setT A a { z4y A a with st:=1 }):=h.setT a ⟨show (0:Int)≤1∧(1:Int)≤3 by decide,ht.late,ht.on,ht.job,ht.lev⟩
  by_cases hl:znj (z4y A a).on=true
  ·have e:znq A 10 a b v={ setT A a { z4y A a with st:=1 } with due:=⟨12,a,(z4y A a).on-32⟩ }:=by simp only [znq];rw [if_pos hl]
   rw [e];have:=ht.on;exact h1.setDue (d:=⟨12,a,(z4y A a).on-32⟩) (show (1:Int)≤12∧(12:Int)≤24 by decide) (by show a<256;omega) (by show (z4y A a).on-32<256;omega)
  ·have e:znq A 10 a b v=setT A a { z4y A a with st:=1 }:=by simp only [znq];rw [if_neg hl];rfl
   rw [e];exact h1
 ·have hb:b<32:=by simp [okN,shp,win] at hok;omega
  exact h.setT a ⟨ht.st,ht.late,ht.on,ht.job,show (0:Int)≤(b:Int)+1∧(b:Int)+1≤32 by omega⟩
 ·have ha:a<64:=by simp [okN,shp,win] at hok;omega
  exact h.setOw b (o:=(a:Int)+1) (by omega)
 ·exact h.setOw b (o:=0) (by omega)
 ·exact h
 ·exact h
 ·exact h
 ·exact h
 ·exact h
 ·exact h
 ·exact h
 ·have ha:a<80:=by simp [okN,shp,win] at hok;omega
  by_cases hl:a<64
  ·have e:znq A 21 a b v=setT A a { z4y A a with st:=3 }:=by simp only [znq];rw [if_pos hl]
   rw [e];exact h.setT a ⟨show (0:Int)≤3∧(3:Int)≤3 by decide,ht.late,ht.on,ht.job,ht.lev⟩
  ·have e:znq A 21 a b v={ A with due:=⟨4,a-64,0⟩ }:=by simp only [znq];rw [if_neg hl]
   rw [e];exact h.setDue (d:=⟨4,a-64,0⟩) (show (1:Int)≤4∧(4:Int)≤24 by decide) (by show a-64<256;omega) (show (0:Nat)<256 by decide)
 ·exact h.setT a ⟨show (0:Int)≤3∧(3:Int)≤3 by decide,ht.late,ht.on,ht.job,ht.lev⟩
 ·exact h
 ·exact h
structure zvr (e:Ev):Prop where
 a:e.a<4294967296
 b:e.b<4294967296
 v:VOk e.k.toNat e.v
 cy:0≤e.cy∧e.cy<18446744073709551616
 co:0≤e.co∧e.co<18446744073709551616
theorem ztp {A:Au} {e:Ev} (h:zm5 A e=true):okE e=true:=by
 unfold zm5 zlU at h;simp only [Bool.and_eq_true] at h;exact h.1.1.1.1.1
theorem ztT {e:Ev} (h:okE e=true):1≤e.k.toNat∧e.k.toNat≤24∧e.k=e.k.toNat∧okN e.k.toNat e.a e.b e.v=true:=by
 unfold okE at h;simp only [Bool.and_eq_true,decide_eq_true_eq] at h;exact ⟨by omega,by omega,by omega,h.2⟩
theorem ztz {A:Au} {e:Ev} (h:AOk A) (he:zvr e) (hk:zm5 A e=true):AOk (znJ A e):=by
 obtain ⟨h1,h2,h3,h4⟩:=ztT (ztp hk);have h5:=zuo h.noDue e.k.toNat e.a e.b e.v ⟨h1,h2⟩ h4 he.v;exact ⟨h5.lt,h5.lo,h5.lp,h5.st,h5.late,h5.on,h5.job,h5.lev,h5.own,h5.isr,h5.run,he.co,he.cy,h5.dk,h5.da,h5.db,h5.dz⟩
theorem zwa:AOk au0:=by
 refine ⟨rfl,rfl,rfl,?_,?_,?_,?_,?_,?_,by decide,by decide,by decide,by decide,by decide,by decide,by decide,fun _=>rfl⟩ <;>
  (intro t ht;obtain rfl:=List.eq_of_mem_replicate ht;decide)
theorem zuU (A:Au) (e:Ev):(znJ A e).seen=A.seen+1:=rfl
def zuY (l:List Ev):Int:=match chk au0 l with
 | some k=>k
 | none=>-1
theorem zvK {A:Au} {e:Ev} (h:zm5 A e=true):nxt A e=some (znJ A e):=by unfold nxt;rw [if_pos h]
theorem zw1 {A:Au} {e:Ev} (h:zm5 A e=false):nxt A e=none:=by unfold nxt;rw [if_neg (by rw [h];decide)]
def Run (l : List Ev) (k : Nat) (A : Au) : Prop:=∀ r : List Ev,chk au0 (l.take k ++ r) = (chk A r).map (· + k)
theorem zwt (l:List Ev):Run l 0 au0:=fun r=>by simp
theorem zvp {l:List Ev} {k:Nat} {A:Au} (hk:k<l.length) (h:Run l k A) {e:Ev} (he:l[k]=e) (hkp:zm5 A e=true):Run l (k+1) (znJ A e):=by
 intro r;rw [List.take_succ_eq_append_getElem hk,List.append_assoc,h,he];simp only [List.singleton_append,chk,zvK hkp,Option.map_map]
 congr 1;funext x;simp only [Function.comp];omega
theorem zuT {l:List Ev} {k:Nat} {A:Au} (hk:k<l.length) (h:Run l k A) {e:Ev} (he:l[k]=e) (hkp:zm5 A e=false):chk au0 l=some k:=by
 have h1:=h (l.drop k);rw [List.take_append_drop,List.drop_eq_getElem_cons hk,he] at h1
 simpa [chk,zw1 hkp] using h1
theorem zvN {l:List Ev} {A:Au} (h:Run l l.length A):chk au0 l=none:=by
 have h1:=h []
 simpa [chk] using h1
end Go.Au
namespace Go.Proofs.YtgiiidminlhbpaaGreatDoor
open Go.RowKit Go.Sx Go.Dl Go.Lk Go.Rq Go.Au
theorem zvw {e:Ev} (h:okE e=true):e.a<4294967296∧e.b<4294967296:=by
 obtain ⟨h1,h2,_,h4⟩:=ztT h;generalize e.k.toNat=k at *;have hk':k=1∨k=2∨k=3∨k=4∨k=5∨k=6∨k=7∨k=8∨k=9∨k=10∨k=11∨k=12∨k=13∨k=14∨k=15∨k=16∨k=17∨k=18∨k=19∨k=20∨k=21∨k=22∨k=23∨k=24:=by omega
 rcases hk' with rfl | rfl | rfl | rfl | rfl | rfl | rfl | rfl | rfl | rfl | rfl | rfl | rfl | rfl | rfl | rfl | rfl | rfl | rfl | rfl | rfl | rfl | rfl | rfl<;>(simp [okN,shp,win] at h4;omega)
theorem zuV {A:Au} {e:Ev} (h:AOk A) (hk:zm5 A e=true):VOk e.k.toNat e.v:=by
 obtain ⟨h1,h2,_,h4⟩:=ztT (ztp hk);unfold zm5 at hk;rw [Bool.and_eq_true] at hk;have hr:=hk.2;clear hk;generalize e.k.toNat=k at *;have hj:=(h.at_ e.a).job;have e0:z4y { A with due:=du0 } e.a=z4y A e.a:=rfl;intro h3
 rcases h3 with rfl | rfl | rfl
 ·have h5:(decide ((z4y { A with due:=du0 } e.a).st=0) && decide (e.v=((z4y { A with due:=du0 } e.a).job+1)%4294967296))=true:=hr;simp only [Bool.and_eq_true,decide_eq_true_eq] at h5;rw [h5.2];exact Nat.mod_lt _ (by decide)
 ·simp [okN,shp,win] at h4;omega
 ·have h5:(zcz { A with due:=du0 } e.a && decide (e.v=(z4y { A with due:=du0 } e.a).job))=true:=hr;simp only [Bool.and_eq_true,decide_eq_true_eq] at h5;rw [h5.2];exact hj
theorem zty {A:Au} {e:Ev} (hk:zm5 A e=true):A.last.co≤e.co∧A.last.cy≤e.cy:=by
 unfold zm5 zlU at hk;simp only [Bool.and_eq_true,decide_eq_true_eq] at hk;exact ⟨hk.1.1.1.2,hk.1.1.2⟩
theorem ztG {A B:Au} {e:Ev} {l:List Ev} (h:ztw A (e::l)=some B):zm5 A e=true∧ztw (znJ A e) l=some B:=by
 have h:(match Go.Au.nxt A e with | none=>none | some C=>ztw C l)=some B:=h;unfold Go.Au.nxt at h
 by_cases hk:zm5 A e=true
 ·rw [if_pos hk] at h;exact ⟨hk,h⟩
 ·rw [if_neg hk] at h;cases h
theorem ztH:∀ (l:List Ev) {A B:Au},ztw A l=some B→A.last.co≤B.last.co∧A.last.cy≤B.last.cy
 | [],A,B,h=>by obtain rfl:A=B:=Option.some.inj h;exact ⟨Int.le_refl _,Int.le_refl _⟩
 | e::l,A,B,h=>by
  obtain ⟨hk,h2⟩:=ztG h;have h3:=zty hk;have h4:e.co≤B.last.co∧e.cy≤B.last.cy:=ztH l h2;omega
theorem zto:∀ (l:List Ev) {A B:Au},AOk A→ztw A l=some B→B.last.co<18446744073709551616→B.last.cy<18446744073709551616→∀ e∈l,zvr e
 | [],_,_,_,_,_,_,e,he=>absurd he (by simp)
 | x::l,A,B,ha,h,h1,h2,e,he=>by
  obtain ⟨hk,h3⟩:=ztG h;have ht:=zty hk;have h4:x.co≤B.last.co∧x.cy≤B.last.cy:=ztH l h3;have hx:zvr x:=⟨(zvw (ztp hk)).1,(zvw (ztp hk)).2,zuV ha hk,⟨by have:=ha.cy.1;omega,by omega⟩,⟨by have:=ha.co.1;omega,by omega⟩⟩
  rcases List.mem_cons.1 he with rfl | he
  ·exact hx
  ·exact zto l (ztz ha hx hk) h3 h1 h2 e he
theorem zvO {c:Cf} (hf:c.filter=4294967295) (ok:z7T c) {s:Sc} (hs:scE s=0) (ht:∀ v∈s.tape,zG v) (n:Nat):∀ e∈Wd.evs c n (zQc c s)++[⟨24,(Wd.run c n (zQc c s)).K.cycle,(Wd.run c n (zQc c s)).K.count,0,0,0⟩],zvr e:=by
 obtain ⟨B,b1,b2⟩:=ztO hf n (zrI ok hs ht) (zul ok);have hI:=(zrk n (zrI ok hs ht)).inv;intro e he
 rcases List.mem_append.1 he with he | he
 ·exact zto _ zwa b1 (Int.lt_of_le_of_lt b2.co hI.cnt.2) (Int.lt_of_le_of_lt b2.cy hI.cyc.2) e he
 ·obtain rfl:=List.mem_singleton.1 he;exact ⟨show (0:Nat)<4294967296 by decide,show (0:Nat)<4294967296 by decide,fun _=>show (0:Nat)<4294967296 by decide,hI.cyc,hI.cnt⟩
end Go.Proofs.YtgiiidminlhbpaaGreatDoor
namespace Go.Proofs.YtgiiidminlhbpaaGreatDoor.EvK
open Go.RowKit Go.Sx Go.Au
theorem zgn {x y:Bool} (h:x=y):Ending.returned (.bool x)=Ending.returned (.bool y):=by rw [h]
theorem zgT (k:Int) (w:World):Calls Tryz.prog 31 #[.int .i64 k] w fun e w'=>e=.returned (.bool (decide (1≤k∧k≤24)))∧w=w':=by
 by_cases h1:1≤k
 ·have d1:decide (1≤k)=true:=by simp [h1]
  go_enter Tryz.func31,Tryz.ntmps31
  go_wp2;go_ret;exact ⟨by simp [h1],rfl⟩
 ·have d1:decide (1≤k)=false:=by simp [h1]
  go_enter Tryz.func31,Tryz.ntmps31
  go_wp2;go_ret;exact ⟨by simp [h1],rfl⟩
theorem z19 (n r:Nat) (hr:r≤14) (w:World):Calls Tryz.prog 33 #[.int .u32 n, .int .i64 r] w fun e w' => e=.returned (.bool (win n r))∧w=w' := by
  match r, hr with
  | 0, _ | 1, _ | 2, _ | 3, _ | 4, _ | 5, _ | 6, _ | 7, _ | 10, _ | 11, _ | 13, _ | 14, _ =>
    go_enter Tryz.func33, Tryz.ntmps33
    go_wp2;go_ret;refine ⟨?_, rfl⟩;simp only [win]
    try congr 3
    try first | rfl | (congr 1; simp; try omega)
  | 8, _ =>
    by_cases h:n<64
    all_goals
      first | have hd:decide ((n:Int)<64)=true := by simp; omega
            | have hd:decide ((n:Int)<64)=false := by simp; omega
      go_enter Tryz.func33, Tryz.ntmps33
      go_wp2;go_ret;exact ⟨zgn (by rw [Bool.eq_iff_iff]; simp [win, h]; try omega), rfl⟩
  | 9, _ =>
    by_cases h:n=0
    · subst h
      go_enter Tryz.func33, Tryz.ntmps33
      go_wp2;go_ret;exact ⟨rfl, rfl⟩
    · have h0:((n:Int)==0)=false := by simp [h]
      by_cases h3:32≤n
      all_goals
        first | have hd:decide ((32:Int)≤(n:Int))=true := by simp; omega
              | have hd:decide ((32:Int)≤(n:Int))=false := by simp; omega
        go_enter Tryz.func33, Tryz.ntmps33
        go_wp2;go_ret;exact ⟨zgn (by rw [Bool.eq_iff_iff]; simp [win, h, h3]; try omega), rfl⟩
  | 12, _ =>
    by_cases h:1≤n
    all_goals
      first | have hd:decide ((1:Int)≤(n:Int))=true := by simp; omega
            | have hd:decide ((1:Int)≤(n:Int))=false := by simp; omega
      go_enter Tryz.func33, Tryz.ntmps33
      go_wp2;go_ret;exact ⟨zgn (by rw [Bool.eq_iff_iff]; simp [win, h]; try omega), rfl⟩
def shV (k:Nat):Value:=.agg #[.int .i64 (shp k).1,.int .i64 (shp k).2.1,.int .i64 (shp k).2.2]
theorem zjZ (k:Nat) (hk:14≤k∧k≤24∧k≠20) (w0 w:World) (P:HP) [hs:Sat w0 w P]:Calls Tryz.prog 63 #[.int .i64 k] w (zp w0 (shV k) P):=by
 have h:k=14∨k=15∨k=16∨k=17∨k=18∨k=19∨k=21∨k=22∨k=23∨k=24:=by omega
 rcases h with rfl | rfl | rfl | rfl | rfl | rfl | rfl | rfl | rfl | rfl
 all_goals
  go_enter Tryz.func63,Tryz.ntmps63
  go_wp2;go_returns;exact ⟨rfl,z3⟩
theorem z6Q (k:Nat) (hk:1≤k∧k≤24) (w0 w:World) (P:HP) [hs:Sat w0 w P]:Calls Tryz.prog 32 #[.int .i64 k] w (zp w0 (shV k) P):=by
 have h:k=1∨k=2∨k=3∨k=4∨k=5∨k=6∨k=7∨k=8∨k=9∨k=10∨k=11∨k=12∨k=13∨k=20∨(14≤k∧k≤24∧k≠20):=by omega
 rcases h with rfl | rfl | rfl | rfl | rfl | rfl | rfl | rfl | rfl | rfl | rfl | rfl | rfl | rfl | h
 iterate 14
  focus
   go_enter Tryz.func32,Tryz.ntmps32
   go_wp2;go_returns;exact ⟨rfl,z3⟩
 have h1:k=14∨k=15∨k=16∨k=17∨k=18∨k=19∨k=21∨k=22∨k=23∨k=24:=by omega
 rcases h1 with rfl | rfl | rfl | rfl | rfl | rfl | rfl | rfl | rfl | rfl
 all_goals
  go_enter Tryz.func32,Tryz.ntmps32
  go_wp2_with fail;refine (zjZ _ (by decide) w0 _ _).mono ?_;rintro e w' ⟨rfl,hs1⟩;dsimp only [shV,shp];go_wp2;go_returns;exact ⟨rfl,z3⟩
theorem ztc (k:Int) (cy co:Int) (a b v:Nat) (w0 w:World) (P:HP) [hs:Sat w0 w P] :
  Calls Tryz.prog 20 #[.agg #[.int .i64 k,.int .u64 cy,.int .u64 co,.int .u32 a,.int .u32 b,.int .u32 v]] w fun e w'=>∃ n:Int,e=.returned (.int .i64 n)∧(n=0↔okE ⟨k,cy,co,a,b,v⟩=true)∧Sat w0 w' P:=by
 by_cases hk:1≤k∧k≤24
 ·obtain ⟨n,rfl⟩:=Int.eq_ofNat_of_zero_le (show 0≤k by omega);have hn:1≤n∧n≤24:=by omega
  have hd:decide (1≤(n:Int)∧(n:Int)≤24)=true:=by simp;omega
  have Hok:Hid (okE ⟨n,cy,co,a,b,v⟩=okN n a b v):=by simp [Hid,okE,hd]
  have Hsh:=hid (show shV n=.agg #[.int .i64 (shp n).1,.int .i64 (shp n).2.1,.int .i64 (shp n).2.2] from rfl);have Hr:Hid ((shp n).1≤14∧(shp n).2.1≤14∧(shp n).2.2≤14):=by
   have h:∀ m:Fin 25,(shp m).1≤14∧(shp m).2.1≤14∧(shp m).2.2≤14:=by decide
   exact h ⟨n,by omega⟩
  have Hn:Hid (okN n a b v=(win a (shp n).1 && win b (shp n).2.1 && win v (shp n).2.2 && !(decide (n=5) && decide (a=b)))):=rfl;generalize shp n=s at *;obtain ⟨s1,s2,s3⟩:=s;dsimp only at Hsh Hr Hn;have hr1:=Hr.out.1;have hr2:=Hr.out.2.1;have hr3:=Hr.out.2.2
  by_cases h1:win a s1=true
  ·by_cases h2:win b s2=true
   ·by_cases h3:win v s3=true
    ·by_cases h4:n=5
     ·subst h4
      by_cases h5:a=b
      all_goals
       have hab:((a:Int)==(b:Int))=decide (a=b):=by rw [Bool.eq_iff_iff];simp;try omega
       first | rw [decide_eq_true h5] at hab | rw [decide_eq_false h5] at hab
       have H5:=hid h5;clear h5
       go_enter Tryz.func20,Tryz.ntmps20
       go_wp2_with fail;refine (zgT _ _).mono ?_;rintro e w' ⟨rfl,rfl⟩;rw [show decide ((1:Int)≤5∧(5:Int)≤24)=true by decide];go_wp2_with fail;refine (z6Q _ hn w0 _ _).mono ?_;rintro e w1 ⟨rfl,hs1⟩;rw [Hsh.out];go_wp2_with fail;refine (z19 a s1 hr1 _).mono ?_;rintro e w' ⟨rfl,rfl⟩;rw [h1];go_wp2_with fail;refine (z19 b s2 hr2 _).mono ?_;rintro e w' ⟨rfl,rfl⟩;rw [h2];go_wp2_with fail;refine (z19 v s3 hr3 _).mono ?_;rintro e w' ⟨rfl,rfl⟩;rw [h3];go_wp2_with fail;go_ret;refine ⟨_,rfl,?_,z3⟩;rw [Hok.out,Hn.out];have h5:=H5.out;simp [h1,h2,h3,h5]
     ·have h5:((n:Int)==5)=false:=by simp;omega
      go_enter Tryz.func20,Tryz.ntmps20
      go_wp2_with fail;refine (zgT _ _).mono ?_;rintro e w' ⟨rfl,rfl⟩;rw [hd];go_wp2_with fail;refine (z6Q _ hn w0 _ _).mono ?_;rintro e w1 ⟨rfl,hs1⟩;rw [Hsh.out];go_wp2_with fail;refine (z19 a s1 hr1 _).mono ?_;rintro e w' ⟨rfl,rfl⟩;rw [h1];go_wp2_with fail;refine (z19 b s2 hr2 _).mono ?_;rintro e w' ⟨rfl,rfl⟩;rw [h2];go_wp2_with fail;refine (z19 v s3 hr3 _).mono ?_;rintro e w' ⟨rfl,rfl⟩;rw [h3];go_wp2_with fail;go_ret;refine ⟨_,rfl,?_,z3⟩;rw [Hok.out,Hn.out];simp [h1,h2,h3,h4]
    ·have h3:win v s3=false:=by simpa using h3
     go_enter Tryz.func20,Tryz.ntmps20
     go_wp2_with fail;refine (zgT _ _).mono ?_;rintro e w' ⟨rfl,rfl⟩;rw [hd];go_wp2_with fail;refine (z6Q _ hn w0 _ _).mono ?_;rintro e w1 ⟨rfl,hs1⟩;rw [Hsh.out];go_wp2_with fail;refine (z19 a s1 hr1 _).mono ?_;rintro e w' ⟨rfl,rfl⟩;rw [h1];go_wp2_with fail;refine (z19 b s2 hr2 _).mono ?_;rintro e w' ⟨rfl,rfl⟩;rw [h2];go_wp2_with fail;refine (z19 v s3 hr3 _).mono ?_;rintro e w' ⟨rfl,rfl⟩;rw [h3];go_wp2_with fail;go_ret;refine ⟨_,rfl,?_,z3⟩;rw [Hok.out,Hn.out];simp [h1,h2,h3]
   ·have h2:win b s2=false:=by simpa using h2
    go_enter Tryz.func20,Tryz.ntmps20
    go_wp2_with fail;refine (zgT _ _).mono ?_;rintro e w' ⟨rfl,rfl⟩;rw [hd];go_wp2_with fail;refine (z6Q _ hn w0 _ _).mono ?_;rintro e w1 ⟨rfl,hs1⟩;rw [Hsh.out];go_wp2_with fail;refine (z19 a s1 hr1 _).mono ?_;rintro e w' ⟨rfl,rfl⟩;rw [h1];go_wp2_with fail;refine (z19 b s2 hr2 _).mono ?_;rintro e w' ⟨rfl,rfl⟩;rw [h2];go_wp2_with fail;go_ret;refine ⟨_,rfl,?_,z3⟩;rw [Hok.out,Hn.out];simp [h1,h2]
  ·have h1:win a s1=false:=by simpa using h1
   go_enter Tryz.func20,Tryz.ntmps20
   go_wp2_with fail;refine (zgT _ _).mono ?_;rintro e w' ⟨rfl,rfl⟩;rw [hd];go_wp2_with fail;refine (z6Q _ hn w0 _ _).mono ?_;rintro e w1 ⟨rfl,hs1⟩;rw [Hsh.out];go_wp2_with fail;refine (z19 a s1 hr1 _).mono ?_;rintro e w' ⟨rfl,rfl⟩;rw [h1];go_wp2_with fail;go_ret;refine ⟨_,rfl,?_,z3⟩;rw [Hok.out,Hn.out];simp [h1]
 ·have hd:decide (1≤k∧k≤24)=false:=by simp;omega
  go_enter Tryz.func20,Tryz.ntmps20
  go_wp2_with fail;refine (zgT _ _).mono ?_;rintro e w' ⟨rfl,rfl⟩;rw [hd];go_wp2_with fail;go_ret;refine ⟨_,rfl,?_,z3⟩;simp [okE];omega
end Go.Proofs.YtgiiidminlhbpaaGreatDoor.EvK
namespace Go.Proofs.YtgiiidminlhbpaaGreatDoor
open Go.Proofs.YtgiiidminlhbpaaGreatDoor.EvK
open Go.RowKit Go.Sx Go.Au
instance zwf:Enc Tk 5 where
 enc t:=[.int .i64 t.st,.int .i64 t.late,.int .u32 t.on,.int .u32 t.job,.int .i64 t.lev]
 len _:=rfl
 one t:=by intro u hu;simp at hu;rcases hu with rfl | rfl | rfl | rfl | rfl<;>rfl
 dft:=tk0
 pos:=by decide
instance (x:Tk):z1v x 0 (.int .i64 x.st):=⟨rfl⟩
instance (x:Tk):z1v x 1 (.int .i64 x.late):=⟨rfl⟩
instance (x:Tk):z1v x 2 (.int .u32 x.on):=⟨rfl⟩
instance (x:Tk):z1v x 3 (.int .u32 x.job):=⟨rfl⟩
instance (x:Tk):z1v x 4 (.int .i64 x.lev):=⟨rfl⟩
instance (x:Tk) (n:Int):z4e x 0 (.int .i64 n) { x with st:=n }:=⟨rfl,by decide⟩
instance (x:Tk) (n:Int):z4e x 1 (.int .i64 n) { x with late:=n }:=⟨rfl,by decide⟩
instance (x:Tk) (n:Nat):z4e x 2 (.int .u32 n) { x with on:=n }:=⟨rfl,by decide⟩
instance (x:Tk) (n:Nat):z4e x 3 (.int .u32 n) { x with job:=n }:=⟨rfl,by decide⟩
instance (x:Tk) (n:Int):z4e x 4 (.int .i64 n) { x with lev:=n }:=⟨rfl,by decide⟩
instance (priority:=1300) (b o k:Nat) (l:List Tk) [h:Lt k l.length]:zC (zdw b o l) b (o+k*5) (.int .i64 (tkg l k).st):=zC.arr0 b o k l _
instance (priority:=1300) (b o k:Nat) (l:List Tk) [h:Lt k l.length]:zC (zdw b o l) b (o+k*5+1) (.int .i64 (tkg l k).late):=zC.arr b o k 1 l _
instance (priority:=1300) (b o k:Nat) (l:List Tk) [h:Lt k l.length]:zC (zdw b o l) b (o+k*5+2) (.int .u32 (tkg l k).on):=zC.arr b o k 2 l _
instance (priority:=1300) (b o k:Nat) (l:List Tk) [h:Lt k l.length]:zC (zdw b o l) b (o+k*5+3) (.int .u32 (tkg l k).job):=zC.arr b o k 3 l _
instance (priority:=1300) (b o k:Nat) (l:List Tk) [h:Lt k l.length]:zC (zdw b o l) b (o+k*5+4) (.int .i64 (tkg l k).lev):=zC.arr b o k 4 l _
theorem zth {α:Type} {l:List α} {k:Nat} (h:k<l.length) (x d:α):(l.set k x).getD k d=x:=by simp [List.getD,h]
theorem zt4 {b o k c:Nat} {l:List Tk} {x:Tk} {v:Value} (h:k<l.length) (hc:(zwf.enc x)[c]?=some v) {w0 w:World} {F:HP} (hs:Sat w0 w (zdw b o (l.set k x)*F)):w.cell? ⟨b,o+k*5+c,none⟩=some v∧w.frozen? ⟨b,o+k*5+c,none⟩=false :=
 z6g hs (by rw [List.length_set];exact h) (by rw [zth h];exact hc)
instance (priority:=1400) (b o k:Nat) (l:List Tk) (x:Tk) [h:Lt k l.length]:zC (zdw b o (l.set k x)) b (o+k*5+1) (.int .i64 x.late):=⟨fun hs=>(zt4 h.lt rfl hs).1,fun hs=>(zt4 h.lt rfl hs).2⟩
instance (priority:=1400) (b o k:Nat) (l:List Tk) (x:Tk) [h:Lt k l.length]:zC (zdw b o (l.set k x)) b (o+k*5+2) (.int .u32 x.on):=⟨fun hs=>(zt4 h.lt rfl hs).1,fun hs=>(zt4 h.lt rfl hs).2⟩
instance (priority:=1400) (b o k:Nat) (l:List Tk) (x:Tk) [h:Lt k l.length]:zC (zdw b o (l.set k x)) b (o+k*5+3) (.int .u32 x.job):=⟨fun hs=>(zt4 h.lt rfl hs).1,fun hs=>(zt4 h.lt rfl hs).2⟩
instance (priority:=1400) (b o k:Nat) (l:List Tk) (x:Tk) [h:Lt k l.length]:zC (zdw b o (l.set k x)) b (o+k*5+4) (.int .i64 x.lev):=⟨fun hs=>(zt4 h.lt rfl hs).1,fun hs=>(zt4 h.lt rfl hs).2⟩
theorem ztq {b o k c:Nat} {l:List Tk} {x x':Tk} {v:Value} (h:k<l.length) (e:z4e x c v x') {w0 w:World} {F:HP} (hs:Sat w0 w (zdw b o (l.set k x)*F)):Sat w0 (w.setCell ⟨b,o+k*5+c,none⟩ v) (zdw b o (l.set k x')*F):=by
 have:=zeD hs (k:=k) (c:=c) (v:=v) (x':=x') (by rw [List.length_set];exact h) e.lt (by rw [zth h];exact e.set_)
 rwa [List.set_set] at this
instance (priority:=1400) (b o k c:Nat) (l:List Tk) (x x':Tk) (v:Value) [h:Lt k l.length] [e:z4e x c v x']:Upd (zdw b o (l.set k x)) b (o+k*5+c) v (zdw b o (l.set k x')):=⟨fun hs=>ztq h.lt e hs⟩
instance (priority:=1300) (b o k:Nat) (l:List Tk) (x':Tk) (c:Nat) (v:Value) [h:Lt k l.length] [e:z4e (tkg l k) c v x']:Upd (zdw b o l) b (o+k*5+c) v (zdw b o (l.set k x')):=⟨fun hs=>zeD hs h.lt e.lt e.set_⟩
instance (priority:=1310) (b o k:Nat) (l:List Tk) (x':Tk) (v:Value) [h:Lt k l.length] [e:z4e (tkg l k) 0 v x']:Upd (zdw b o l) b (o+k*5) v (zdw b o (l.set k x')):=⟨fun hs=>zeD hs h.lt e.lt e.set_⟩
instance (priority:=1300) (b o k:Nat) (l:List Int) [h:Lt k l.length]:zC (pts b o (l.map (Value.int .i64))) b (o+k) (.int .i64 (owg l k)):=zC.num .i64 b o k l
abbrev zt7 (d:Du):List Value:=[.int .i64 d.k,.int .u32 d.a,.int .u32 d.b]
def auP (b:Nat) (A:Au):HP :=
 pts b 0 [.int .i64 A.seen,.bool false]*(pts b 2 (zjY A.last)*(pts b 8 (zt7 A.due)*(zdw b 11 A.ts*(pts b 331 (A.ow.map (Value.int .i64))*(pts b 363 (A.pn.map Value.bool)*pts b 379 [.int .i64 A.isr,.int .i64 A.run])))))
theorem zsU {w0 w:World} {F:HP} {b:Nat} {A:Au} (hs:Sat w0 w (auP b A*F)) :
  Sat w0 w (pts b 0 [.int .i64 A.seen,.bool false]*(pts b 2 (zjY A.last)*(pts b 8 (zt7 A.due)*(zdw b 11 A.ts*(pts b 331 (A.ow.map (Value.int .i64))*(pts b 363 (A.pn.map Value.bool)*(pts b 379 [.int .i64 A.isr,.int .i64 A.run]*F))))))):=hs.perm (by unfold auP;ac_rfl)
theorem zsS {w0 w:World} {F:HP} {b:Nat} {A:Au} (hs:Sat w0 w (pts b 0 [.int .i64 A.seen,.bool false]*(pts b 2 (zjY A.last)*(pts b 8 (zt7 A.due)*(zdw b 11 A.ts*(pts b 331 (A.ow.map (Value.int .i64))*(pts b 363 (A.pn.map Value.bool)*(pts b 379 [.int .i64 A.isr,.int .i64 A.run]*F)))))))):Sat w0 w (auP b A*F):=hs.perm (by unfold auP;ac_rfl)
theorem zt8 (b:Nat) (A:Au) (x:Nat) (w0 w:World) (F:HP) (hs:Sat w0 w (auP b A*F)) (hA:AOk A) (hx:x<4294967296) :
  Calls Tryz.prog 35 #[.pointer (some ⟨b,0,none⟩),.int .u32 x] w fun e w'=>e=.returned (.bool (zcz A x))∧w=w':=by
 have hs:=zsU hs;have hl:=hA.lt;have Hl:=hid hl;have hi:=hA.isr;have hr:=hA.run
 by_cases h1:x<64
 ·have d1:decide (x<64)=true:=by simp;omega
  haveI:Lt x A.ts.length:=⟨by omega⟩;have Hres:Hid (zcz A x=(decide (A.isr=0) && decide (A.run=(x:Int)+1) && decide ((tkg A.ts x).st=1))):=by unfold Hid zcz;rw [if_pos h1];rfl
  by_cases h2:A.isr=0
  ·have d2:(A.isr==0)=true:=by simp [h2]
   have d2':decide (A.isr=0)=true:=by simp [h2]
   rw [d2'] at Hres;clear d2' h2 hl
   by_cases h3:A.run=(x:Int)+1
   ·have d3:(A.run==(x:Int)+1)=true:=by simp [h3]
    have d3':decide (A.run=(x:Int)+1)=true:=by simp [h3]
    rw [d3'] at Hres;clear d3' h3
    go_enter Tryz.func35,Tryz.ntmps35
    go_wp2;go_ret;exact ⟨zgn (by rw [Hres.out,Bool.eq_iff_iff];simp),rfl⟩
   ·have d3:(A.run==(x:Int)+1)=false:=by simp [h3]
    have d3':decide (A.run=(x:Int)+1)=false:=by simp [h3]
    rw [d3'] at Hres;clear d3' h3
    go_enter Tryz.func35,Tryz.ntmps35
    go_wp2;go_ret;exact ⟨zgn (by rw [Hres.out,Bool.eq_iff_iff];simp),rfl⟩
  ·have d2:(A.isr==0)=false:=by simp [h2]
   have d2':decide (A.isr=0)=false:=by simp [h2]
   rw [d2'] at Hres;clear d2' h2 hl
   go_enter Tryz.func35,Tryz.ntmps35
   go_wp2;go_ret;exact ⟨zgn (by rw [Hres.out,Bool.eq_iff_iff];simp),rfl⟩
 ·have d1:decide ((x:Int)<64)=false:=by simp;omega
  by_cases h2:x<80
  ·have Hres:Hid (zcz A x=decide (A.isr=(x:Int)-63)):=by simp [Hid,zcz,h1,h2]
   clear hl
   go_enter Tryz.func35,Tryz.ntmps35
   go_wp2;go_ret;exact ⟨zgn (by rw [Hres.out,Bool.eq_iff_iff];simp;omega),rfl⟩
  ·have Hres:Hid (zcz A x=decide (A.last.k=18)):=by simp [Hid,zcz,h1,h2]
   clear hl
   go_enter Tryz.func35,Tryz.ntmps35
   go_wp2;go_ret;exact ⟨zgn (by rw [Hres.out,Bool.eq_iff_iff];simp),rfl⟩
theorem zwp {x x':Int} {p p':Bool} (h1:x=x') (h2:p=p'):Ending.returned (.tuple #[.int .u32 x,.bool p])=Ending.returned (.tuple #[.int .u32 x',.bool p']):=by rw [h1,h2]
theorem ztj (y:Nat) (hy:y<160) (w:World):Calls Tryz.prog 64 #[.int .u32 y] w fun e w'=>(∃ z:Nat,e=.returned (.tuple #[.int .u32 z,.bool (znj y)])∧(znj y=true→z=y-32))∧w=w':=by
 by_cases h:32≤y
 ·have d:decide ((32:Int)≤(y:Int))=true:=by simp;omega
  go_enter Tryz.func64,Tryz.ntmps64
  go_wp2;go_ret2;exact ⟨⟨(((y:Int)-32)%4294967296).toNat,zwp (by omega) (by rw [Bool.eq_iff_iff];simp [znj,h];try omega),fun _=>by omega⟩,rfl⟩
 ·have d:decide ((32:Int)≤(y:Int))=false:=by simp;omega
  go_enter Tryz.func64,Tryz.ntmps64
  go_wp2;go_ret2;exact ⟨⟨(((y:Int)-32)%4294967296).toNat,zwp (by omega) (by rw [Bool.eq_iff_iff];simp [znj,h];try omega),fun h'=>by simp [znj,h] at h'⟩,rfl⟩
def Aft (w0:World) (pb:Nat) (A:Au) (k a b v:Nat) (had:Bool) (F:HP) (e:Ending) (w':World):Prop :=
 e=.returned (.bool (zob A k a b v had))∧(zob A k a b v had=true→Sat w0 w' (auP pb (znq A k a b v)*F))∧(zob A k a b v had=false→Sat w0 w' (pts pb 0 [.int .i64 A.seen,.bool false]*(F*any)))
theorem ztl (A:Au) (k a b v:Nat):(znq A k a b v).seen=A.seen:=by
 unfold znq setT
 repeat' (first | rfl | split)
section
variable {w0 w':World} {pb:Nat} {A:Au} {k a b v:Nat} {had x:Bool} {F:HP}
theorem zvU (hr:zob A k a b v had=false) (hx:x=false) (hs:Sat w0 w' (pts pb 0 [.int .i64 A.seen,.bool false]*(F*any))):Aft w0 pb A k a b v had F (.returned (.bool x)) w' :=
 ⟨by rw [hr,hx],fun h=>(by rw [hr] at h;cases h),fun _=>hs⟩
theorem zsT (hx:x=zob A k a b v had) (hs:Sat w0 w' (auP pb (znq A k a b v)*F)):Aft w0 pb A k a b v had F (.returned (.bool x)) w':=by
 refine ⟨by rw [hx],fun _=>hs,fun _=>?_⟩;have hs:=zsU hs;rw [ztl] at hs;exact z3
end
abbrev evA (k a b v:Nat) (cy co:Int):Value:=.agg #[.int .i64 k,.int .u64 cy,.int .u64 co,.int .u32 a,.int .u32 b,.int .u32 v]
theorem zve (pb:Nat) (A:Au) (a b v:Nat) (had:Bool) (cy co:Int) (w0 w:World) (F:HP) (hs:Sat w0 w (auP pb A*F)) (hA:AOk A) (ha:a<16) :
  Calls Tryz.prog 34 #[.pointer (some ⟨pb,0,none⟩),evA 1 a b v cy co] w (Aft w0 pb A 1 a b v had F):=by
 have hs:=zsU hs;have d1:decide (a<16)=true:=by simp;omega
 have i1:(a:Int)<16:=by omega
 haveI:Lt a A.pn.length:=⟨by rw [hA.lp];omega⟩
 go_enter Tryz.func34,Tryz.ntmps34
 go_wp2_with fail;go_quiet (fail);go_wp2_with fail;refine z9 (w0:=w0) ?_;intro wx hsx;go_still_tail 6,(by kernel_rfl);change wpList _ _ _ _ _ wx.drew;go_wp2_with fail;go_ret;refine zsT (by rw [show zob A 1 a b v had=(A.pn.getD a false==decide (b=1)) from rfl,show decide (b=1)=((b:Int)==1) by rw [Bool.eq_iff_iff];simp;omega];simp) (zsS ?_);dsimp only [znq,setT,z4y,z3O];exact z3
theorem zvf (pb:Nat) (A:Au) (a b v:Nat) (had:Bool) (cy co:Int) (w0 w:World) (F:HP) (hs:Sat w0 w (auP pb A*F)) (hA:AOk A) (ha:a<16) :
    Calls Tryz.prog 34 #[.pointer (some ⟨pb, 0, none⟩), evA 3 a b v cy co] w (Aft w0 pb A 3 a b v had F) := by
  have hs := zsU hs;have d1:decide (a<16)=true := by simp; omega
  have i1:(a:Int)<16 := by omega
  haveI:Lt a A.pn.length := ⟨by rw [hA.lp]; omega⟩;have Hr:Hid (zob A 3 a b v had=(decide (A.isr=0) && A.pn.getD a false)) := rfl
  by_cases h1:A.isr=0
  all_goals
    first | have d2:(A.isr==0)=true := by simp [h1]
          | have d2:(A.isr==0)=false := by simp [h1]
    first | rw [decide_eq_true h1] at Hr | rw [decide_eq_false h1] at Hr
    clear h1
    go_enter Tryz.func34, Tryz.ntmps34
    go_wp2_with fail;go_quiet (fail); go_wp2_with fail;refine z9 (w0 := w0) ?_; intro wx hsx; go_still_tail 6, (by kernel_rfl); change wpList _ _ _ _ _ wx.drew; go_wp2_with fail;go_ret;refine zsT (by rw [Hr.out]; simp) (zsS ?_); dsimp only [znq, setT, z4y, z3O]; exact z3
theorem zvg (pb:Nat) (A:Au) (a b v:Nat) (had:Bool) (cy co:Int) (w0 w:World) (F:HP) (hs:Sat w0 w (auP pb A*F)) (ha:a<16) :
  Calls Tryz.prog 34 #[.pointer (some ⟨pb,0,none⟩),evA 4 a b v cy co] w (Aft w0 pb A 4 a b v had F):=by
 have hs:=zsU hs;have i1:(a:Int)<16:=by omega
 go_enter Tryz.func34,Tryz.ntmps34
 go_wp2_with fail;go_quiet (fail);go_wp2_with fail;go_ret;refine zsT (by rw [Bool.eq_iff_iff];simp [zob]) (zsS ?_);dsimp only [znq,setT,z4y,z3O];exact z3
theorem zvt (pb:Nat) (A:Au) (k a b v:Nat) (hk:k=21∨k=22∧a<64) (had:Bool) (cy co:Int) (w0 w:World) (F:HP) (hs:Sat w0 w (auP pb A*F)) (hA:AOk A) (ha:a<80) :
  Calls Tryz.prog 40 #[.pointer (some ⟨pb,0,none⟩),evA k a b v cy co] w (Aft w0 pb A k a b v had F):=by
 have Hr:Hid (zob A k a b v had=zcz A a):=by rcases hk with rfl | ⟨rfl,_⟩<;>rfl
 have hs0:=hs;have hs:=zsU hs
 by_cases h1:a<64
 ·have d1:decide ((a:Int)<64)=true:=by simp;omega
  have d2:decide (a<64)=true:=by simp;omega
  have i1:(a:Int)<64:=by omega
  haveI:Lt a A.ts.length:=⟨by rw [hA.lt];omega⟩;have Hl:Hid (znq A k a b v=setT A a { z4y A a with st:=3 }):=by rcases hk with rfl | ⟨rfl,_⟩<;>simp [Hid,znq,h1]
  go_enter Tryz.func40,Tryz.ntmps40
  go_wp2_with fail;refine (zt8 pb A a w0 _ any (zsS z3) hA (by omega)).mono ?_;rintro e w' ⟨rfl,rfl⟩;rw [← Hr.out];go_wp2_with fail;refine z9 (w0:=w0) ?_;intro wx hsx;go_still_tail 7,(by kernel_rfl);change wpList _ _ _ _ _ wx.drew;go_wp2_with fail;go_ret;refine zsT rfl (zsS ?_);rw [Hl.out];dsimp only [setT,z4y];exact z3
 ·have d1:decide ((a:Int)<64)=false:=by simp;omega
  obtain rfl:k=21:=by omega
  have Hl:Hid (znq A 21 a b v={ A with due:=⟨4,a-64,0⟩ }):=by simp [Hid,znq,h1]
  have hsub:((a-64:Nat):Int)=(a:Int)-64:=by omega
  go_enter Tryz.func40,Tryz.ntmps40
  go_wp2_with fail;refine (zt8 pb A a w0 _ any (zsS z3) hA (by omega)).mono ?_;rintro e w' ⟨rfl,rfl⟩;rw [← Hr.out];go_wp2_with fail;go_ret;refine zsT rfl (zsS ?_);rw [Hl.out];dsimp only [zt7];rw [hsub];exact z3
theorem zv2 {ts:List Tk} {k:Nat} (hk:k<ts.length) (p:Tk→Bool):(ts.take (k+1)).all p=((ts.take k).all p && p (tkg ts k)):=by
 rw [List.take_succ_eq_append_getElem hk,List.all_append];simp [tkg,List.getD,hk]
theorem zwi (A:Au) (a b v:Nat) (had:Bool):zob A 5 a b v had=(decide (A.isr=0) && decide (A.run=if b=255 then 0 else (b:Int)+1) && (if a=255 then zjn A else decide ((z4y A a).st=1))):=rfl
theorem zv4 (pb:Nat) (A:Au) (a b v:Nat) (had:Bool) (cy co:Int) (w0 w:World) (F:HP) (hs:Sat w0 w (auP pb A*F)) (hA:AOk A) (ha:a<64∨a=255) (hb:b<64∨b=255) :
    Calls Tryz.prog 36 #[.pointer (some ⟨pb, 0, none⟩), evA 5 a b v cy co] w (Aft w0 pb A 5 a b v had F) := by
  have hs := zsU hs;have Hr := hid (zwi A a b v had);generalize hwb:(if b=255 then (0:Int) else (b:Int)+1)=wb at Hr;generalize hO:(decide (A.isr=0) && decide (A.run=wb))=O at Hr;have Hwb := hid hwb;have HO := hid hO;have hb2:b<256 := by omega
  have ha2:a<256 := by omega
  have Hb := hid hb;have Ha := hid ha;have hlt := hA.lt;have Hlt := hid hlt;clear hwb hb ha hO hlt
  by_cases h1:b=255
  all_goals
    first
      | have e1:((b:Int) != 255)=false := by simp [h1]
      | have e1:((b:Int) != 255)=true := by simp; omega
    have Hw2 := Hwb.out
    first | rw [if_pos h1] at Hw2 | rw [if_neg h1] at Hw2
    subst Hw2;clear h1
    by_cases h2:A.isr=0
    all_goals
      first | have e2:(A.isr==0)=true := by simp [h2]
            | have e2:(A.isr==0)=false := by simp [h2]
      first | rw [decide_eq_true h2, Bool.true_and] at HO | rw [decide_eq_false h2, Bool.false_and] at HO
      clear h2
      by_cases h3:a=255
      · have e3:((a:Int)==255)=true := by simp [h3]
        rw [if_pos h3] at Hr;have Hl:Hid (znq A 5 a b v={ A with run := 0 }) := by simp [Hid, znq, h3]
        clear h3
        go_enter Tryz.func36, Tryz.ntmps36
        go_wp2_with fail
        go_loop [31, 6] (fun iv okv => ∃ (k:Nat) (x:Bool), k≤64∧iv=.int .i64 k∧okv=.bool x∧x=(O && (A.ts.take k).all fun t => decide (t.st≠1))) (fun iv _ => 64-(intOf iv).toNat)
        case atStart => exact ⟨0, _, by omega, rfl, rfl, by rw [← HO.out]; first | rfl | (rw [Bool.eq_iff_iff]; simp)⟩
        case round =>
          obtain ⟨k, x, hk, rfl, rfl, hx⟩ := hrel;have Hx := hid hx;clear hx
          by_cases hk64:k<64
          · have i1:(k:Int)<64 := by omega
            have i2:decide (k<64)=true := by simp; omega
            haveI:Lt k A.ts.length := ⟨by have := Hlt.out; omega⟩;have Hn := hid (zv2 (ts := A.ts) (k := k) (by have := Hlt.out; omega) (fun t => decide (t.st≠1)))
            cases x
            all_goals
              go_wp2_with fail
              go_round
              case rel =>
                refine ⟨k+1, _, by omega, by go_num, rfl, ?_⟩;rw [Hn.out, ← Bool.and_assoc, ← Hx.out]
                first | rfl | (rw [Bool.eq_iff_iff]; simp)
              case measure => simp [intOf]; omega
          · have hke:k=64 := by omega
            subst hke;have i1:¬ ((64:Int)<64) := by omega
            go_wp2_with fail;go_ret;refine zsT ?_ (zsS ?_)
            · rw [Hr.out, zjn]
              have := Hx.out;rw [List.take_of_length_le (by have := Hlt.out; omega)] at this;rw [← this]
            · rw [Hl.out]
              exact z3
      · have e3:((a:Int)==255)=false := by simp; omega
        rw [if_neg h3] at Hr;have Hl:Hid (znq A 5 a b v={ A with run := (a:Int)+1 }) := by simp [Hid, znq, h3]
        have ha64:a<64 := by have := Ha.out; omega
        have i1:(a:Int)<64 := by omega
        have i2:decide (a<64)=true := by simp; omega
        haveI:Lt a A.ts.length := ⟨by have := Hlt.out; omega⟩;clear h3
        first
          | (cases O
             all_goals
               have HO2 := HO.out;rw [← Bool.beq_eq_decide_eq] at HO2
               go_enter Tryz.func36, Tryz.ntmps36
               go_wp2_with fail;go_quiet (fail); go_wp2_with fail;go_ret;refine zsT ?_ (zsS ?_)
               · rw [Hr.out]; first | rfl | (rw [Bool.eq_iff_iff]; simp [z4y])
               · rw [Hl.out]
                 exact z3)
          | (have HO2 := HO.out
             subst HO2
             go_enter Tryz.func36, Tryz.ntmps36
             go_wp2_with fail;go_quiet (fail); go_wp2_with fail;go_ret;refine zsT ?_ (zsS ?_)
             · rw [Hr.out]; first | rfl | (rw [Bool.eq_iff_iff]; simp [z4y])
             · rw [Hl.out]
               exact z3)
theorem zu1 {α:Type} {l:List α} {k:Nat} (h:k<l.length) (d:α):l.getD k d∈l:=by
 simp only [List.getD,List.getElem?_eq_getElem h,Option.getD_some];exact List.getElem_mem h
theorem ztm {l:List Tk} {k:Nat} (h:k<l.length):tkg l k∈l:=zu1 h tk0
theorem nbq (x y:Nat):((x:Int)==((y:Int)+1)%4294967296)=decide (x=(y+1)%4294967296):=by rw [Bool.eq_iff_iff,beq_iff_eq,decide_eq_true_eq];omega
theorem zwj (A:Au) (a b v:Nat) (had:Bool):zob A 6 a b v had=(decide ((z4y A a).st=0) && decide (v=((z4y A a).job+1)%4294967296)):=rfl
theorem zvX (A:Au) (a b v:Nat):znq A 6 a b v=setT A a { z4y A a with st:=1,job:=v,late:=max ((z4y A a).late-1) 0 }:=rfl
theorem zvA (pb:Nat) (A:Au) (a b v:Nat) (had:Bool) (cy co:Int) (w0 w:World) (F:HP) (hs:Sat w0 w (auP pb A*F)) (hA:AOk A) (ha:a<64) (hv:v<4294967296) :
    Calls Tryz.prog 37 #[.pointer (some ⟨pb, 0, none⟩), evA 6 a b v cy co] w (Aft w0 pb A 6 a b v had F) := by
  have hs := zsU hs;have hlt := hA.lt;have hm := ztm (l := A.ts) (k := a) (by omega);have hj := hA.job _ hm;have hl := hA.late _ hm;have Hr := hid (zwj A a b v had);have Hl := hid (zvX A a b v);have Hlt := hid hlt;have i1:(a:Int)<64 := by omega
  have i2:decide (a<64)=true := by simp; omega
  haveI:Lt a A.ts.length := ⟨by omega⟩;clear hlt hm
  by_cases h1:(z4y A a).st=0
  all_goals
    have h2:(tkg A.ts a).st=(z4y A a).st := rfl
    first | have e2:((tkg A.ts a).st==0)=true := by rw [h2]; simp [h1]
          | have e2:((tkg A.ts a).st==0)=false := by rw [h2]; simp [h1]
    first | rw [decide_eq_true h1, Bool.true_and] at Hr | rw [decide_eq_false h1, Bool.false_and] at Hr
    clear h1 h2;have q4:IntKind.i64.wrap ((tkg A.ts a).late-1)=(tkg A.ts a).late-1 := by rw [IntKind.wrap_i64]; omega
    by_cases hm:(tkg A.ts a).late≤0
    all_goals
      first
        | (have m1:(tkg A.ts a).late-1<0 := by omega
           have Hm:Hid (max ((tkg A.ts a).late-1) 0=0) := by unfold Hid; omega)
        | (have m1:¬ (tkg A.ts a).late-1<0 := by omega
           have m2:0≤(tkg A.ts a).late-1 := by omega
           have Hm:Hid (max ((tkg A.ts a).late-1) 0=(tkg A.ts a).late-1) := by unfold Hid; omega)
      clear hm
      go_enter Tryz.func37, Tryz.ntmps37
      go_wp2_with fail;go_quiet (fail); go_wp2_with fail;go_quiet (fail); go_wp2_with fail;refine z9 (w0 := w0) ?_;intro wx hsx;refine zw (fun w' => w'.cell? ⟨w.heap.size, 5, none⟩=some (.int .u32 v)∧w'.cell? ⟨pb, 11+a*5+1, none⟩=some (.int .i64 (tkg A.ts a).late)) 19 [(0, 0), (1, 0), (2, 0), (3, 0), (4, 1), (5, 0), (6, 0), (7, 0), (8, 1), (9, 0), (10, 0), (11, 0), (12, 0), (13, 2), (14, 0), (15, 0), (16, 2), (17, 0), (18, 0), (19, 2)] (by kernel_rfl) (by kernel_rfl) (fun _ _ _ _ h => h) ⟨z4, z4⟩ ?_
      iterate 13 (first | refine zt1 ?_ | refine zt3 ?_ | refine zt0 ?_ | refine zt2 ?_)
      refine zpN rfl (by rfl) (fun K hK => ?_);go_wp2_with fail
      (first | refine ⟨fun _ => ⟨z4, z4⟩, ?_⟩ | refine ⟨fun h => absurd rfl h, ?_⟩ | skip)
      iterate 2 (first | refine zt1 ?_ | refine zt3 ?_ | refine zt0 ?_ | refine zt2 ?_)
      refine zpN rfl (by rfl) (fun K hK => ?_);go_wp2_with fail
      (first | refine ⟨fun _ => ⟨z4, z4⟩, ?_⟩ | refine ⟨fun h => absurd rfl h, ?_⟩ | skip)
      iterate 2 (first | refine zt1 ?_ | refine zt3 ?_ | refine zt0 ?_ | refine zt2 ?_)
      refine zpN rfl (by rfl) (fun K hK => ?_);go_wp2_with fail
      (first | refine ⟨fun _ => ⟨z4, z4⟩, ?_⟩ | refine ⟨fun h => absurd rfl h, ?_⟩ | skip)
      refine z0b ?_;go_wp2_with fail;go_ret;refine zsT ?_ (zsS ?_)
      · first | (rw [Hr.out]; done) | (rw [Hr.out]; exact nbq _ _)
      · rw [Hl.out]
        dsimp only [setT, z4y];rw [Hm.out];exact z3
theorem zwk (A:Au) (a b v:Nat) (had:Bool):zob A 7 a b v had=(decide ((z4y A a).st≠0∧(z4y A a).st≠3) && decide ((v:Int)=min ((z4y A a).late+1) 255)):=rfl
theorem zvY (A:Au) (a b v:Nat):znq A 7 a b v=setT A a { z4y A a with late:=v }:=rfl
theorem zwo (x y:Int):(x==y)=decide (x=y):=by rw [Bool.eq_iff_iff];simp
theorem zvB (pb:Nat) (A:Au) (a b v:Nat) (had:Bool) (cy co:Int) (w0 w:World) (F:HP) (hs:Sat w0 w (auP pb A*F)) (hA:AOk A) (ha:a<64) (hv:v<4294967296) :
    Calls Tryz.prog 37 #[.pointer (some ⟨pb, 0, none⟩), evA 7 a b v cy co] w (Aft w0 pb A 7 a b v had F) := by
  have hs := zsU hs;have hlt := hA.lt;have hm := ztm (l := A.ts) (k := a) (by omega);have hl := hA.late _ hm;have Hr := hid (zwk A a b v had);have Hl := hid (zvY A a b v);have Hlt := hid hlt;have i1:(a:Int)<64 := by omega
  have i2:decide (a<64)=true := by simp; omega
  haveI:Lt a A.ts.length := ⟨by omega⟩;clear hlt hm;have h2:(tkg A.ts a).st=(z4y A a).st := rfl
  by_cases h1:(z4y A a).st=0
  · have e2:((tkg A.ts a).st != 0)=false := by rw [h2]; simp [h1]
    rw [decide_eq_false (fun h => h.1 h1), Bool.false_and] at Hr;clear h1 h2
    go_enter Tryz.func37, Tryz.ntmps37
    go_wp2_with fail;go_quiet (fail); go_wp2_with fail;go_quiet (fail); go_wp2_with fail;go_ret;refine zsT ?_ (zsS ?_)
    · rw [Hr.out]; done
    · rw [Hl.out]
      dsimp only [setT, z4y];exact z3
  · have e2:((tkg A.ts a).st != 0)=true := by rw [h2]; simp [h1]
    by_cases h3:(z4y A a).st=3
    · have e3:((tkg A.ts a).st != 3)=false := by rw [h2]; simp [h3]
      rw [decide_eq_false (fun h => h.2 h3), Bool.false_and] at Hr;clear h1 h2 h3
      go_enter Tryz.func37, Tryz.ntmps37
      go_wp2_with fail;go_quiet (fail); go_wp2_with fail;go_quiet (fail); go_wp2_with fail;go_ret;refine zsT ?_ (zsS ?_)
      · rw [Hr.out]; done
      · rw [Hl.out]
        dsimp only [setT, z4y];exact z3
    · have e3:((tkg A.ts a).st != 3)=true := by rw [h2]; simp [h3]
      rw [decide_eq_true ⟨h1, h3⟩, Bool.true_and] at Hr;clear h1 h2 h3
      by_cases hm:(tkg A.ts a).late+1≤255
      all_goals
        first
          | (have m1:¬ (255<(tkg A.ts a).late+1) := by omega
             have Hm:Hid (min ((z4y A a).late+1) 255=(tkg A.ts a).late+1) := by unfold Hid z4y; omega)
          | (have m1:255<(tkg A.ts a).late+1 := by omega
             have Hm:Hid (min ((z4y A a).late+1) 255=255) := by unfold Hid z4y; omega)
        clear hm
        go_enter Tryz.func37, Tryz.ntmps37
        go_wp2_with fail;go_quiet (fail); go_wp2_with fail;go_quiet (fail); go_wp2_with fail;go_ret;refine zsT ?_ (zsS ?_)
        · rw [Hr.out, Hm.out]; exact zwo _ _
        · rw [Hl.out]
          dsimp only [setT, z4y];exact z3
theorem ztr (b:Nat) (A:Au) (a:Nat) (x:Bool) (hx:zcz A a=x) (w0 w:World) (F:HP) (hs:Sat w0 w (auP b A*F)) (hA:AOk A) (ha:a<4294967296) :
  Calls Tryz.prog 35 #[.pointer (some ⟨b,0,none⟩),.int .u32 a] w fun e w'=>e=.returned (.bool x)∧w=w':=by
 subst hx;exact zt8 b A a w0 w F hs hA ha
theorem zwl (A:Au) (a b v:Nat) (had:Bool):zob A 8 a b v had=(zcz A a && decide (v=(z4y A a).job)):=rfl
theorem zvZ (A:Au) (a b v:Nat):znq A 8 a b v={ setT A a { z4y A a with st:=0 } with due:=if (z4y A a).late > 0 then ⟨6,a,0⟩ else A.due }:=rfl
theorem zvu (x y:Nat):((x:Int)==(y:Int))=decide (x=y):=by rw [Bool.eq_iff_iff];simp;omega
theorem zvC (pb:Nat) (A:Au) (a b v:Nat) (had:Bool) (cy co:Int) (w0 w:World) (F:HP) (hs:Sat w0 w (auP pb A*F)) (hA:AOk A) (ha:a<64) (hv:v<4294967296) :
    Calls Tryz.prog 37 #[.pointer (some ⟨pb, 0, none⟩), evA 8 a b v cy co] w (Aft w0 pb A 8 a b v had F) := by
  have hs := zsU hs;have hlt := hA.lt;have hm := ztm (l := A.ts) (k := a) (by omega);have hl := hA.late _ hm;have Hr := hid (zwl A a b v had);have Hl := hid (zvZ A a b v);have Hlt := hid hlt;have i1:(a:Int)<64 := by omega
  have i2:decide (a<64)=true := by simp; omega
  haveI:Lt a A.ts.length := ⟨by omega⟩;clear hlt hm;generalize hx:zcz A a=x at Hr;have Hx := hid hx;clear hx
  by_cases hp:0<(tkg A.ts a).late
  all_goals
    first
      | (have p1:decide (0<(tkg A.ts a).late)=true := by simp [hp]
         have Hd:Hid ((if (z4y A a).late > 0 then (⟨6, a, 0⟩:Du) else A.due)=⟨6, a, 0⟩) := by unfold Hid; exact if_pos hp)
      | (have p1:decide (0<(tkg A.ts a).late)=false := by simp [hp]
         have Hd:Hid ((if (z4y A a).late > 0 then (⟨6, a, 0⟩:Du) else A.due)=A.due) := by unfold Hid; exact if_neg hp)
    clear hp
    cases x
    all_goals
      go_enter Tryz.func37, Tryz.ntmps37
      go_wp2_with fail;go_quiet (fail); go_wp2_with fail; refine z9 (w0 := w0) ?_; intro wq hsq;go_quiet ((go_at_call 35; exact zif (ztr pb A a _ Hx.out w0 _ any (zsS z3) hA (by omega))));go_wp2_with fail;go_ret;refine zsT ?_ (zsS ?_)
      · rw [Hr.out]; first | rfl | exact zvu _ _
      · rw [Hl.out, Hd.out]
        dsimp only [setT, z4y, zt7];exact z3
theorem zwm (A:Au) (a b v:Nat) (had:Bool):zob A 9 a b v had=(zcz A a && (!znj b || decide (z3O A (b-32)≠0) && decide (z3O A (b-32)≠(a:Int)+1))):=rfl
theorem zw0 (A:Au) (a b v:Nat):znq A 9 a b v=setT A a { z4y A a with st:=2,on:=b }:=rfl
theorem zvk (pb:Nat) (A:Au) (a b v:Nat) (had:Bool) (cy co:Int) (w0 w:World) (F:HP) (hs:Sat w0 w (auP pb A*F)) (hA:AOk A) (ha:a<64) (hb:b<160) :
  Calls Tryz.prog 38 #[.pointer (some ⟨pb,0,none⟩),evA 9 a b v cy co] w (Aft w0 pb A 9 a b v had F):=by
 have hs:=zsU hs;have hlt:=hA.lt;have Hr:=hid (zwm A a b v had);have Hl:=hid (zw0 A a b v);have Hlt:=hid hlt;have Hlo:=hid hA.lo;have i1:(a:Int)<64:=by omega
 have i2:decide (a<64)=true:=by simp;omega
 haveI:Lt a A.ts.length:=⟨by omega⟩;clear hlt;generalize hx:zcz A a=x at Hr;have Hx:=hid hx;clear hx
 by_cases hmu:znj b=true
 ·have hm32:b-32<32:=by simp [znj] at hmu;omega
  have i3:((b-32:Nat):Int)<32:=by omega
  have i4:decide (b-32<32)=true:=by simp;omega
  haveI:Lt (b-32) A.ow.length:=⟨by rw [hA.lo];omega⟩;have hown:=hA.own (owg A.ow (b-32)) (zu1 (by rw [hA.lo];omega) 0);have Hmu:=hid hmu;rw [hmu] at Hr;have Hr2:Hid (zob A 9 a b v had=(x && (decide (owg A.ow (b-32)≠0) && decide (owg A.ow (b-32)≠(a:Int)+1)))):=Hr;clear Hr;clear hmu;generalize hmm:b-32=m at *;have Hmm:=hid hmm;clear hmm;generalize hoo:owg A.ow m=o at Hr2;haveI:zC (pts pb 331 (A.ow.map (Value.int .i64))) pb (331+m) (.int .i64 o):=by
   rw [← hoo];infer_instance
  rw [hoo] at hown;clear hoo;have e0:(o != 0)=decide (o≠0):=by rw [Bool.eq_iff_iff];simp
  have e1:(o != (a:Int)+1)=decide (o≠(a:Int)+1):=by rw [Bool.eq_iff_iff];simp
  generalize decide (o≠0)=y0 at *;generalize decide (o≠(a:Int)+1)=y1 at *
  cases x<;>cases y0<;>cases y1
  all_goals
   go_enter Tryz.func38,Tryz.ntmps38
   go_wp2_with fail;go_quiet (fail);go_wp2_with fail;refine (ztr pb A a _ Hx.out w0 _ any (zsS z3) hA (by omega)).mono ?_;rintro e w' ⟨rfl,rfl⟩;go_wp2_with fail;refine (ztj b hb _).mono ?_;rintro e w' ⟨⟨z,rfl,hz⟩,rfl⟩;obtain rfl:z=m:=by rw [hz Hmu.out];exact Hmm.out
   rw [Hmu.out];clear hz;go_wp2_with fail;go_quiet (fail);go_wp2_with fail;refine z9 (w0:=w0) ?_;intro wq hsq;refine zj (fun w'=>w'.cell? ⟨w.heap.size,4,none⟩=some (.int .u32 b)) [(0,true),(1,true),(2,true),(3,true),(4,true),(5,true),(6,false),(7,true),(8,true),(9,false)] (by kernel_rfl) (by kernel_rfl) (fun _ _ _ _ h=>h) z4 ?_
   iterate 6 (first | refine zsR ?_ | refine zsQ ?_)
   refine z29 rfl (by rfl) (fun K hK=>?_);go_wp2_with fail
   (first | refine ⟨z4,?_⟩ | skip)
   iterate 2 (first | refine zsR ?_ | refine zsQ ?_)
   refine z29 rfl (by rfl) (fun K hK=>?_);go_wp2_with fail
   (first | refine ⟨z4,?_⟩ | skip)
   refine zB ?_;go_wp2_with fail;go_ret;refine zsT ?_ (zsS ?_)
   ·first | (rw [Hr2.out];done) | (rw [Hr2.out];rfl)
   ·rw [Hl.out];dsimp only [setT,z4y];exact z3
 ·rw [Bool.not_eq_true] at hmu;have Hmu:=hid hmu;rw [hmu] at Hr;have Hr2:=hid (Hr.out.trans (show (x && (!false || decide (z3O A (b-32)≠0) && decide (z3O A (b-32)≠(a:Int)+1)))=x by simp));clear hmu
  cases x
  all_goals
   go_enter Tryz.func38,Tryz.ntmps38
   go_wp2_with fail;go_quiet (fail);go_wp2_with fail;refine (ztr pb A a _ Hx.out w0 _ any (zsS z3) hA (by omega)).mono ?_;rintro e w' ⟨rfl,rfl⟩;go_wp2_with fail;refine (ztj b hb _).mono ?_;rintro e w' ⟨⟨z,rfl,hz⟩,rfl⟩;rw [Hmu.out];clear hz;go_wp2_with fail;refine z9 (w0:=w0) ?_;intro wq hsq;refine zj (fun w'=>w'.cell? ⟨w.heap.size,4,none⟩=some (.int .u32 b)) [(0,true),(1,true),(2,true),(3,true),(4,true),(5,true),(6,false),(7,true),(8,true),(9,false)] (by kernel_rfl) (by kernel_rfl) (fun _ _ _ _ h=>h) z4 ?_
   iterate 6 (first | refine zsR ?_ | refine zsQ ?_)
   refine z29 rfl (by rfl) (fun K hK=>?_);go_wp2_with fail
   (first | refine ⟨z4,?_⟩ | skip)
   iterate 2 (first | refine zsR ?_ | refine zsQ ?_)
   refine z29 rfl (by rfl) (fun K hK=>?_);go_wp2_with fail
   (first | refine ⟨z4,?_⟩ | skip)
   refine zB ?_;go_wp2_with fail;go_ret;refine zsT ?_ (zsS ?_)
   ·first | (rw [Hr2.out];done) | (rw [Hr2.out];rfl)
   ·rw [Hl.out];dsimp only [setT,z4y];exact z3
theorem zw2 (A:Au) (a b v:Nat) (had:Bool):zob A 10 a b v had=(decide ((z4y A a).st=2) && (if (z4y A a).on=0 then decide (b=0) else !znj (z4y A a).on || decide (b=1) && decide (z3O A ((z4y A a).on-32)=0))):=rfl
theorem zvH (A:Au) (a b v:Nat):znq A 10 a b v={ setT A a { z4y A a with st:=1 } with due:=if znj (z4y A a).on then ⟨12,a,(z4y A a).on-32⟩ else A.due }:=rfl
theorem zuL (pb:Nat) (A:Au) (a b v:Nat) (had:Bool) (cy co:Int) (w0 w:World) (F:HP) (hs:Sat w0 w (auP pb A*F)) (hA:AOk A) (ha:a<64) (hb:b<2) :
  Calls Tryz.prog 38 #[.pointer (some ⟨pb,0,none⟩),evA 10 a b v cy co] w (Aft w0 pb A 10 a b v had F):=by
 have hs:=zsU hs;have hlt:=hA.lt;have hm:=ztm (l:=A.ts) (k:=a) (by omega);have hon:=hA.on _ hm;have Hr:=hid (zw2 A a b v had);have Hl:=hid (zvH A a b v);have Hlt:=hid hlt;have i1:(a:Int)<64:=by omega
 have i2:decide (a<64)=true:=by simp;omega
 haveI:Lt a A.ts.length:=⟨by omega⟩;clear hlt hm;have h2:(tkg A.ts a).st=(z4y A a).st:=rfl;have hon2:(tkg A.ts a).on=(z4y A a).on:=rfl
 by_cases h1:(z4y A a).st=2
 ·have e1:((tkg A.ts a).st==2)=true:=by rw [h2];simp [h1]
  rw [decide_eq_true h1,Bool.true_and] at Hr;clear h1 h2
  by_cases h3:(z4y A a).on=0
  ·have e3:(((tkg A.ts a).on:Int)==0)=true:=by rw [hon2];simp [h3]
   rw [if_pos h3] at Hr;rw [h3,show znj 0=false from rfl] at Hl;have Hl2:Hid (znq A 10 a b v=setT A a { z4y A a with st:=1 }):=Hl;clear Hl;have Hmu:Hid (znj (tkg A.ts a).on=false):=by rw [hon2,h3];rfl
   clear h3 hon2
   go_enter Tryz.func38,Tryz.ntmps38
   go_wp2_with fail;go_quiet (fail);go_wp2_with fail;refine (ztj _ hon _).mono ?_;rintro e w' ⟨⟨z,rfl,hz⟩,rfl⟩;rw [Hmu.out];clear hz;go_wp2_with fail;go_ret;refine zsT ?_ (zsS ?_)
   ·rw [Hr.out];exact zvu _ 0
   ·rw [Hl2.out];dsimp only [setT,z4y];exact z3
  ·have e3:(((tkg A.ts a).on:Int)==0)=false:=by rw [hon2];simp [h3]
   rw [if_neg h3] at Hr
   by_cases hmu:znj (z4y A a).on=true
   ·have hm32:(z4y A a).on-32<32:=by simp [znj] at hmu;omega
    have i3:(((z4y A a).on-32:Nat):Int)<32:=by omega
    have i4:decide ((z4y A a).on-32<32)=true:=by simp;omega
    haveI:Lt ((z4y A a).on-32) A.ow.length:=⟨by rw [hA.lo];omega⟩;have Hmu:Hid (znj (tkg A.ts a).on=true):=hmu;rw [hmu] at Hr Hl;have Hr2:Hid (zob A 10 a b v had=(decide (b=1) && decide (owg A.ow ((z4y A a).on-32)=0))):=Hr;clear hmu Hr;have Hon2:=hid hon2;clear h3 hon2;generalize hmm:(z4y A a).on-32=m at *;have Hmm:=hid hmm;clear hmm;have Hl2:Hid (znq A 10 a b v={ setT A a { z4y A a with st:=1 } with due:=⟨12,a,m⟩ }):=Hl;clear Hl
    by_cases hb1:b=1
    all_goals
     first | (have f1:((b:Int)==1)=true:=by simp [hb1]) | (have f1:((b:Int)==1)=false:=by simp;omega)
     first | rw [decide_eq_true hb1,Bool.true_and] at Hr2 | rw [decide_eq_false hb1,Bool.false_and] at Hr2
     clear hb1
     go_enter Tryz.func38,Tryz.ntmps38
     go_wp2_with fail;go_quiet (fail);go_wp2_with fail;refine (ztj _ hon _).mono ?_;rintro e w' ⟨⟨z,rfl,hz⟩,rfl⟩;obtain rfl:z=m:=by rw [hz Hmu.out];exact Hmm.out
     rw [Hmu.out];clear hz;go_wp2_with fail;go_ret;refine zsT ?_ (zsS ?_)
     ·first | (rw [Hr2.out];done) | (rw [Hr2.out];exact zwo _ _)
     ·rw [Hl2.out];dsimp only [setT,z4y,zt7];exact z3
   ·rw [Bool.not_eq_true] at hmu;have Hmu:Hid (znj (tkg A.ts a).on=false):=hmu;rw [hmu] at Hr Hl;have Hr2:Hid (zob A 10 a b v had=true):=Hr;have Hl2:Hid (znq A 10 a b v=setT A a { z4y A a with st:=1 }):=Hl;clear hmu Hr Hl h3 hon2
    go_enter Tryz.func38,Tryz.ntmps38
    go_wp2_with fail;go_quiet (fail);go_wp2_with fail;refine (ztj _ hon _).mono ?_;rintro e w' ⟨⟨z,rfl,hz⟩,rfl⟩;rw [Hmu.out];clear hz;go_wp2_with fail;go_ret;refine zsT ?_ (zsS ?_)
    ·rw [Hr2.out]
    ·rw [Hl2.out];dsimp only [setT,z4y,zt7];exact z3
 ·have e1:((tkg A.ts a).st==2)=false:=by rw [h2];simp [h1]
  rw [decide_eq_false h1,Bool.false_and] at Hr;clear h1 h2 hon2;generalize hmu:znj (tkg A.ts a).on=mu;have Hmu:=hid hmu;clear hmu
  cases mu
  all_goals
   go_enter Tryz.func38,Tryz.ntmps38
   go_wp2_with fail;go_quiet (fail);go_wp2_with fail;refine (ztj _ hon _).mono ?_;rintro e w' ⟨⟨z,rfl,hz⟩,rfl⟩;rw [Hmu.out];clear hz;go_wp2_with fail;go_ret;exact zvU Hr.out rfl z3
theorem zw4 (A:Au) (a b v:Nat) (had:Bool):zob A 12 a b v had=(decide (z3O A b=0) && (had || zcz A a)):=rfl
theorem zw5 (A:Au) (a b v:Nat) (had:Bool):zob A 13 a b v had=(decide (z3O A b=(a:Int)+1) && (decide ((z4y A a).st=3) || zcz A a)):=rfl
theorem zvI (A:Au) (a b v:Nat):znq A 12 a b v={ A with ow:=A.ow.set b ((a:Int)+1) }:=rfl
theorem zvJ (A:Au) (a b v:Nat):znq A 13 a b v={ A with ow:=A.ow.set b 0 }:=rfl
theorem zvi (pb:Nat) (A:Au) (a b v:Nat) (had:Bool) (cy co:Int) (w0 w:World) (F:HP) (hs:Sat w0 w (auP pb A*F)) (hA:AOk A) (ha:a<64) (hb:b<32) :
    Calls Tryz.prog 39 #[.pointer (some ⟨pb, 0, none⟩), evA 12 a b v cy co, .bool had] w (Aft w0 pb A 12 a b v had F) := by
  have hs := zsU hs;have Hr := hid (zw4 A a b v had);have Hl := hid (zvI A a b v);have i1:(b:Int)<32 := by omega
  have i2:decide (b<32)=true := by simp; omega
  haveI:Lt b A.ow.length := ⟨by rw [hA.lo]; omega⟩;have h2:owg A.ow b=z3O A b := rfl;generalize hx:zcz A a=x at Hr;have Hx := hid hx;clear hx
  by_cases h1:z3O A b=0
  all_goals
    first | have e1:(owg A.ow b==0)=true := by rw [h2]; simp [h1]
          | have e1:(owg A.ow b==0)=false := by rw [h2]; simp [h1]
    first | rw [decide_eq_true h1, Bool.true_and] at Hr | rw [decide_eq_false h1, Bool.false_and] at Hr
    clear h1 h2
    cases had
    all_goals
      go_enter Tryz.func39, Tryz.ntmps39
      go_wp2_with fail;go_quiet (fail); go_wp2_with fail
      try
        refine (ztr pb A a _ Hx.out w0 _ any (zsS z3) hA (by omega)).mono ?_;rintro e w' ⟨rfl, rfl⟩;go_wp2_with fail
      go_ret;refine zsT ?_ (zsS ?_)
      · first | (rw [Hr.out]; done) | (rw [Hr.out]; rfl)
      · rw [Hl.out]
        exact z3
theorem zvj (pb:Nat) (A:Au) (a b v:Nat) (had:Bool) (cy co:Int) (w0 w:World) (F:HP) (hs:Sat w0 w (auP pb A*F)) (hA:AOk A) (ha:a<64) (hb:b<32) :
  Calls Tryz.prog 39 #[.pointer (some ⟨pb,0,none⟩),evA 13 a b v cy co,.bool had] w (Aft w0 pb A 13 a b v had F):=by
 have hs:=zsU hs;have Hr:=hid (zw5 A a b v had);have Hl:=hid (zvJ A a b v);have i1:(b:Int)<32:=by omega
 have i2:decide (b<32)=true:=by simp;omega
 have i3:(a:Int)<64:=by omega
 have i4:decide (a<64)=true:=by simp;omega
 haveI:Lt b A.ow.length:=⟨by rw [hA.lo];omega⟩;haveI:Lt a A.ts.length:=⟨by rw [hA.lt];omega⟩;have h2:owg A.ow b=z3O A b:=rfl;have h3:(tkg A.ts a).st=(z4y A a).st:=rfl;generalize hx:zcz A a=x at Hr;have Hx:=hid hx;clear hx
 by_cases h1:z3O A b=(a:Int)+1
 ·have e1:(owg A.ow b==(a:Int)+1)=true:=by rw [h2];simp [h1]
  rw [decide_eq_true h1,Bool.true_and] at Hr
  by_cases h4:(z4y A a).st=3
  ·have e2:((tkg A.ts a).st==3)=true:=by rw [h3];simp [h4]
   rw [decide_eq_true h4,Bool.true_or] at Hr;clear h1 h2 h3 h4
   go_enter Tryz.func39,Tryz.ntmps39
   go_wp2_with fail;go_quiet (fail);go_wp2_with fail;refine z9 (w0:=w0) ?_;intro wq hsq;go_quiet (fail);go_wp2_with fail;go_ret;refine zsT ?_ (zsS ?_)
   ·first | (rw [Hr.out];done) | (rw [Hr.out];rfl)
   ·rw [Hl.out];exact z3
  ·have e2:((tkg A.ts a).st==3)=false:=by rw [h3];simp [h4]
   rw [decide_eq_false h4,Bool.false_or] at Hr;clear h1 h2 h3 h4
   cases x
   all_goals
    go_enter Tryz.func39,Tryz.ntmps39
    go_wp2_with fail;go_quiet (fail);go_wp2_with fail;refine z9 (w0:=w0) ?_;intro wq hsq;go_quiet ((go_at_call 35;exact zif (ztr pb A a _ Hx.out w0 _ any (zsS z3) hA (by omega))));go_wp2_with fail;go_ret;refine zsT ?_ (zsS ?_)
    ·first | (rw [Hr.out];done) | (rw [Hr.out];rfl)
    ·rw [Hl.out];exact z3
 ·have e1:(owg A.ow b==(a:Int)+1)=false:=by rw [h2];simp [h1]
  rw [decide_eq_false h1,Bool.false_and] at Hr;clear h1 h2 h3
  go_enter Tryz.func39,Tryz.ntmps39
  go_wp2_with fail;go_quiet (fail);go_wp2_with fail;refine z9 (w0:=w0) ?_;intro wq hsq;go_quiet (fail);go_wp2_with fail;go_ret;refine zsT ?_ (zsS ?_)
  ·first | (rw [Hr.out];done) | (rw [Hr.out];rfl)
  ·rw [Hl.out];exact z3
theorem zv5 (pb:Nat) (A:Au) (a b v:Nat) (had:Bool) (cy co:Int) (w0 w:World) (F:HP) (hs:Sat w0 w (auP pb A*F)) (hA:AOk A) (hok:okN 1 a b v=true) (hv:VOk 1 v) :
  Calls Tryz.prog 21 #[.pointer (some ⟨pb,0,none⟩),evA 1 a b v cy co,.bool had] w (Aft w0 pb A 1 a b v had F):=by
 have hs:=zsU hs
 go_enter Tryz.func21,Tryz.ntmps21
 go_wp2_with fail;refine (zve pb A a b v had cy co w0 _ F (zsS (F:=F) z3) hA (by simp [okN,shp,win] at hok;omega)).mono ?_;rintro e w' ⟨rfl,hy,hn⟩;go_wp2_with fail;go_ret;exact ⟨rfl,hy,hn⟩
theorem zv6 (pb:Nat) (A:Au) (a b v:Nat) (had:Bool) (cy co:Int) (w0 w:World) (F:HP) (hs:Sat w0 w (auP pb A*F)) (hA:AOk A) (hok:okN 2 a b v=true) (hv:VOk 2 v) :
  Calls Tryz.prog 21 #[.pointer (some ⟨pb,0,none⟩),evA 2 a b v cy co,.bool had] w (Aft w0 pb A 2 a b v had F):=by
 have hs:=zsU hs;have hb:b<4294967296:=by simp [okN,shp,win] at hok;omega
 go_enter Tryz.func21,Tryz.ntmps21
 go_wp2_with fail;refine (zt8 pb A b w0 _ any (zsS z3) hA hb).mono ?_;rintro e w' ⟨rfl,rfl⟩;go_wp2_with fail;go_ret;refine zsT rfl (zsS ?_);dsimp only [znq];exact z3
theorem zv7 (pb:Nat) (A:Au) (a b v:Nat) (had:Bool) (cy co:Int) (w0 w:World) (F:HP) (hs:Sat w0 w (auP pb A*F)) (hA:AOk A) (hok:okN 3 a b v=true) (hv:VOk 3 v) :
  Calls Tryz.prog 21 #[.pointer (some ⟨pb,0,none⟩),evA 3 a b v cy co,.bool had] w (Aft w0 pb A 3 a b v had F):=by
 have hs:=zsU hs
 go_enter Tryz.func21,Tryz.ntmps21
 go_wp2_with fail;refine (zvf pb A a b v had cy co w0 _ F (zsS (F:=F) z3) hA (by simp [okN,shp,win] at hok;omega)).mono ?_;rintro e w' ⟨rfl,hy,hn⟩;go_wp2_with fail;go_ret;exact ⟨rfl,hy,hn⟩
theorem zv8 (pb:Nat) (A:Au) (a b v:Nat) (had:Bool) (cy co:Int) (w0 w:World) (F:HP) (hs:Sat w0 w (auP pb A*F)) (hA:AOk A) (hok:okN 4 a b v=true) (hv:VOk 4 v) :
  Calls Tryz.prog 21 #[.pointer (some ⟨pb,0,none⟩),evA 4 a b v cy co,.bool had] w (Aft w0 pb A 4 a b v had F):=by
 have hs:=zsU hs
 go_enter Tryz.func21,Tryz.ntmps21
 go_wp2_with fail;refine (zvg pb A a b v had cy co w0 _ F (zsS (F:=F) z3) (by simp [okN,shp,win] at hok;omega)).mono ?_;rintro e w' ⟨rfl,hy,hn⟩;go_wp2_with fail;go_ret;exact ⟨rfl,hy,hn⟩
theorem zv9 (pb:Nat) (A:Au) (a b v:Nat) (had:Bool) (cy co:Int) (w0 w:World) (F:HP) (hs:Sat w0 w (auP pb A*F)) (hA:AOk A) (hok:okN 5 a b v=true) (hv:VOk 5 v) :
  Calls Tryz.prog 21 #[.pointer (some ⟨pb,0,none⟩),evA 5 a b v cy co,.bool had] w (Aft w0 pb A 5 a b v had F):=by
 have hs:=zsU hs
 go_enter Tryz.func21,Tryz.ntmps21
 go_wp2_with fail;refine (zv4 pb A a b v had cy co w0 _ F (zsS (F:=F) z3) hA (by simp [okN,shp,win] at hok;omega) (by simp [okN,shp,win] at hok;omega)).mono ?_;rintro e w' ⟨rfl,hy,hn⟩;go_wp2_with fail;go_ret;exact ⟨rfl,hy,hn⟩
theorem zva (pb:Nat) (A:Au) (a b v:Nat) (had:Bool) (cy co:Int) (w0 w:World) (F:HP) (hs:Sat w0 w (auP pb A*F)) (hA:AOk A) (hok:okN 6 a b v=true) (hv:VOk 6 v) :
  Calls Tryz.prog 21 #[.pointer (some ⟨pb,0,none⟩),evA 6 a b v cy co,.bool had] w (Aft w0 pb A 6 a b v had F):=by
 have hs:=zsU hs
 go_enter Tryz.func21,Tryz.ntmps21
 go_wp2_with fail;refine (zvA pb A a b v had cy co w0 _ F (zsS (F:=F) z3) hA (by simp [okN,shp,win] at hok;omega) (hv (by decide))).mono ?_;rintro e w' ⟨rfl,hy,hn⟩;go_wp2_with fail;go_ret;exact ⟨rfl,hy,hn⟩
theorem zvb (pb:Nat) (A:Au) (a b v:Nat) (had:Bool) (cy co:Int) (w0 w:World) (F:HP) (hs:Sat w0 w (auP pb A*F)) (hA:AOk A) (hok:okN 7 a b v=true) (hv:VOk 7 v) :
  Calls Tryz.prog 21 #[.pointer (some ⟨pb,0,none⟩),evA 7 a b v cy co,.bool had] w (Aft w0 pb A 7 a b v had F):=by
 have hs:=zsU hs
 go_enter Tryz.func21,Tryz.ntmps21
 go_wp2_with fail;refine (zvB pb A a b v had cy co w0 _ F (zsS (F:=F) z3) hA (by simp [okN,shp,win] at hok;omega) (hv (by decide))).mono ?_;rintro e w' ⟨rfl,hy,hn⟩;go_wp2_with fail;go_ret;exact ⟨rfl,hy,hn⟩
theorem zvc (pb:Nat) (A:Au) (a b v:Nat) (had:Bool) (cy co:Int) (w0 w:World) (F:HP) (hs:Sat w0 w (auP pb A*F)) (hA:AOk A) (hok:okN 8 a b v=true) (hv:VOk 8 v) :
  Calls Tryz.prog 21 #[.pointer (some ⟨pb,0,none⟩),evA 8 a b v cy co,.bool had] w (Aft w0 pb A 8 a b v had F):=by
 have hs:=zsU hs
 go_enter Tryz.func21,Tryz.ntmps21
 go_wp2_with fail;refine (zvC pb A a b v had cy co w0 _ F (zsS (F:=F) z3) hA (by simp [okN,shp,win] at hok;omega) (hv (by decide))).mono ?_;rintro e w' ⟨rfl,hy,hn⟩;go_wp2_with fail;go_ret;exact ⟨rfl,hy,hn⟩
theorem zvd (pb:Nat) (A:Au) (a b v:Nat) (had:Bool) (cy co:Int) (w0 w:World) (F:HP) (hs:Sat w0 w (auP pb A*F)) (hA:AOk A) (hok:okN 9 a b v=true) (hv:VOk 9 v) :
  Calls Tryz.prog 21 #[.pointer (some ⟨pb,0,none⟩),evA 9 a b v cy co,.bool had] w (Aft w0 pb A 9 a b v had F):=by
 have hs:=zsU hs
 go_enter Tryz.func21,Tryz.ntmps21
 go_wp2_with fail;refine (zvk pb A a b v had cy co w0 _ F (zsS (F:=F) z3) hA (by simp [okN,shp,win] at hok;omega) (by simp [okN,shp,win] at hok;omega)).mono ?_;rintro e w' ⟨rfl,hy,hn⟩;go_wp2_with fail;go_ret;exact ⟨rfl,hy,hn⟩
theorem zur (pb:Nat) (A:Au) (a b v:Nat) (had:Bool) (cy co:Int) (w0 w:World) (F:HP) (hs:Sat w0 w (auP pb A*F)) (hA:AOk A) (hok:okN 10 a b v=true) (hv:VOk 10 v) :
  Calls Tryz.prog 21 #[.pointer (some ⟨pb,0,none⟩),evA 10 a b v cy co,.bool had] w (Aft w0 pb A 10 a b v had F):=by
 have hs:=zsU hs
 go_enter Tryz.func21,Tryz.ntmps21
 go_wp2_with fail;refine (zuL pb A a b v had cy co w0 _ F (zsS (F:=F) z3) hA (by simp [okN,shp,win] at hok;omega) (by simp [okN,shp,win] at hok;omega)).mono ?_;rintro e w' ⟨rfl,hy,hn⟩;go_wp2_with fail;go_ret;exact ⟨rfl,hy,hn⟩
theorem zut (pb:Nat) (A:Au) (a b v:Nat) (had:Bool) (cy co:Int) (w0 w:World) (F:HP) (hs:Sat w0 w (auP pb A*F)) (hA:AOk A) (hok:okN 12 a b v=true) (hv:VOk 12 v) :
  Calls Tryz.prog 21 #[.pointer (some ⟨pb,0,none⟩),evA 12 a b v cy co,.bool had] w (Aft w0 pb A 12 a b v had F):=by
 have hs:=zsU hs
 go_enter Tryz.func21,Tryz.ntmps21
 go_wp2_with fail;refine (zvi pb A a b v had cy co w0 _ F (zsS (F:=F) z3) hA (by simp [okN,shp,win] at hok;omega) (by simp [okN,shp,win] at hok;omega)).mono ?_;rintro e w' ⟨rfl,hy,hn⟩;go_wp2_with fail;go_ret;exact ⟨rfl,hy,hn⟩
theorem zuu (pb:Nat) (A:Au) (a b v:Nat) (had:Bool) (cy co:Int) (w0 w:World) (F:HP) (hs:Sat w0 w (auP pb A*F)) (hA:AOk A) (hok:okN 13 a b v=true) (hv:VOk 13 v) :
  Calls Tryz.prog 21 #[.pointer (some ⟨pb,0,none⟩),evA 13 a b v cy co,.bool had] w (Aft w0 pb A 13 a b v had F):=by
 have hs:=zsU hs
 go_enter Tryz.func21,Tryz.ntmps21
 go_wp2_with fail;refine (zvj pb A a b v had cy co w0 _ F (zsS (F:=F) z3) hA (by simp [okN,shp,win] at hok;omega) (by simp [okN,shp,win] at hok;omega)).mono ?_;rintro e w' ⟨rfl,hy,hn⟩;go_wp2_with fail;go_ret;exact ⟨rfl,hy,hn⟩
theorem zuv (pb:Nat) (A:Au) (a b v:Nat) (had:Bool) (cy co:Int) (w0 w:World) (F:HP) (hs:Sat w0 w (auP pb A*F)) (hA:AOk A) (hok:okN 14 a b v=true) (hv:VOk 14 v) :
  Calls Tryz.prog 21 #[.pointer (some ⟨pb,0,none⟩),evA 14 a b v cy co,.bool had] w (Aft w0 pb A 14 a b v had F):=by
 have hs:=zsU hs;have ha:a<4294967296:=by simp [okN,shp,win] at hok;omega
 go_enter Tryz.func21,Tryz.ntmps21
 go_wp2_with fail;refine (zt8 pb A a w0 _ any (zsS z3) hA ha).mono ?_;rintro e w' ⟨rfl,rfl⟩;go_wp2_with fail;go_ret;refine zsT rfl (zsS ?_);dsimp only [znq];exact z3
theorem zuw (pb:Nat) (A:Au) (a b v:Nat) (had:Bool) (cy co:Int) (w0 w:World) (F:HP) (hs:Sat w0 w (auP pb A*F)) (hA:AOk A) (hok:okN 15 a b v=true) (hv:VOk 15 v) :
  Calls Tryz.prog 21 #[.pointer (some ⟨pb,0,none⟩),evA 15 a b v cy co,.bool had] w (Aft w0 pb A 15 a b v had F):=by
 have hs:=zsU hs;have ha:a<4294967296:=by simp [okN,shp,win] at hok;omega
 go_enter Tryz.func21,Tryz.ntmps21
 go_wp2_with fail;refine (zt8 pb A a w0 _ any (zsS z3) hA ha).mono ?_;rintro e w' ⟨rfl,rfl⟩;go_wp2_with fail;go_ret;refine zsT rfl (zsS ?_);dsimp only [znq];exact z3
theorem zuz (pb:Nat) (A:Au) (a b v:Nat) (had:Bool) (cy co:Int) (w0 w:World) (F:HP) (hs:Sat w0 w (auP pb A*F)) (hA:AOk A) (hok:okN 18 a b v=true) (hv:VOk 18 v) :
  Calls Tryz.prog 21 #[.pointer (some ⟨pb,0,none⟩),evA 18 a b v cy co,.bool had] w (Aft w0 pb A 18 a b v had F):=by
 have hs:=zsU hs
 go_enter Tryz.func21,Tryz.ntmps21
 go_wp2_with fail;go_ret;refine zsT rfl (zsS ?_);dsimp only [znq];exact z3
theorem zuA (pb:Nat) (A:Au) (a b v:Nat) (had:Bool) (cy co:Int) (w0 w:World) (F:HP) (hs:Sat w0 w (auP pb A*F)) (hA:AOk A) (hok:okN 19 a b v=true) (hv:VOk 19 v) :
  Calls Tryz.prog 21 #[.pointer (some ⟨pb,0,none⟩),evA 19 a b v cy co,.bool had] w (Aft w0 pb A 19 a b v had F):=by
 have hs:=zsU hs;have ha:a<4294967296:=by simp [okN,shp,win] at hok;omega
 go_enter Tryz.func21,Tryz.ntmps21
 go_wp2_with fail;refine (zt8 pb A a w0 _ any (zsS z3) hA ha).mono ?_;rintro e w' ⟨rfl,rfl⟩;go_wp2_with fail;go_ret;refine zsT rfl (zsS ?_);dsimp only [znq];exact z3
theorem zuB (pb:Nat) (A:Au) (a b v:Nat) (had:Bool) (cy co:Int) (w0 w:World) (F:HP) (hs:Sat w0 w (auP pb A*F)) (hA:AOk A) (hok:okN 20 a b v=true) (hv:VOk 20 v) :
  Calls Tryz.prog 21 #[.pointer (some ⟨pb,0,none⟩),evA 20 a b v cy co,.bool had] w (Aft w0 pb A 20 a b v had F):=by
 have hs:=zsU hs;have hb:b<4294967296:=by simp [okN,shp,win] at hok;omega
 go_enter Tryz.func21,Tryz.ntmps21
 go_wp2_with fail;refine (zt8 pb A b w0 _ any (zsS z3) hA hb).mono ?_;rintro e w' ⟨rfl,rfl⟩;go_wp2_with fail;go_ret;refine zsT rfl (zsS ?_);dsimp only [znq];exact z3
theorem zuC (pb:Nat) (A:Au) (a b v:Nat) (had:Bool) (cy co:Int) (w0 w:World) (F:HP) (hs:Sat w0 w (auP pb A*F)) (hA:AOk A) (hok:okN 21 a b v=true) (hv:VOk 21 v) :
  Calls Tryz.prog 21 #[.pointer (some ⟨pb,0,none⟩),evA 21 a b v cy co,.bool had] w (Aft w0 pb A 21 a b v had F):=by
 have hs:=zsU hs
 go_enter Tryz.func21,Tryz.ntmps21
 go_wp2_with fail;refine (zvt pb A 21 a b v (by simp [okN,shp,win] at hok;omega) had cy co w0 _ F (zsS (F:=F) z3) hA (by simp [okN,shp,win] at hok;omega)).mono ?_;rintro e w' ⟨rfl,hy,hn⟩;go_wp2_with fail;go_ret;exact ⟨rfl,hy,hn⟩
theorem zuD (pb:Nat) (A:Au) (a b v:Nat) (had:Bool) (cy co:Int) (w0 w:World) (F:HP) (hs:Sat w0 w (auP pb A*F)) (hA:AOk A) (hok:okN 22 a b v=true) (hv:VOk 22 v) :
  Calls Tryz.prog 21 #[.pointer (some ⟨pb,0,none⟩),evA 22 a b v cy co,.bool had] w (Aft w0 pb A 22 a b v had F):=by
 have hs:=zsU hs
 go_enter Tryz.func21,Tryz.ntmps21
 go_wp2_with fail;refine (zvt pb A 22 a b v (by simp [okN,shp,win] at hok;omega) had cy co w0 _ F (zsS (F:=F) z3) hA (by simp [okN,shp,win] at hok;omega)).mono ?_;rintro e w' ⟨rfl,hy,hn⟩;go_wp2_with fail;go_ret;exact ⟨rfl,hy,hn⟩
theorem zuE (pb:Nat) (A:Au) (a b v:Nat) (had:Bool) (cy co:Int) (w0 w:World) (F:HP) (hs:Sat w0 w (auP pb A*F)) (hA:AOk A) (hok:okN 23 a b v=true) (hv:VOk 23 v) :
  Calls Tryz.prog 21 #[.pointer (some ⟨pb,0,none⟩),evA 23 a b v cy co,.bool had] w (Aft w0 pb A 23 a b v had F):=by
 have hs:=zsU hs;have ha:a<4294967296:=by simp [okN,shp,win] at hok;omega
 go_enter Tryz.func21,Tryz.ntmps21
 go_wp2_with fail;refine (zt8 pb A a w0 _ any (zsS z3) hA ha).mono ?_;rintro e w' ⟨rfl,rfl⟩;go_wp2_with fail;go_ret;refine zsT rfl (zsS ?_);dsimp only [znq];exact z3
theorem zuF (pb:Nat) (A:Au) (a b v:Nat) (had:Bool) (cy co:Int) (w0 w:World) (F:HP) (hs:Sat w0 w (auP pb A*F)) (hA:AOk A) (hok:okN 24 a b v=true) (hv:VOk 24 v) :
  Calls Tryz.prog 21 #[.pointer (some ⟨pb,0,none⟩),evA 24 a b v cy co,.bool had] w (Aft w0 pb A 24 a b v had F):=by
 have hs:=zsU hs
 go_enter Tryz.func21,Tryz.ntmps21
 go_wp2_with fail;go_ret;refine zsT rfl (zsS ?_);dsimp only [znq];exact z3
theorem zwr (x y:Int):(x != y)=decide (x≠y):=by rw [Bool.eq_iff_iff];simp
theorem zw3 (A:Au) (a b v:Nat) (had:Bool):zob A 11 a b v had=decide ((z4y A a).lev≠(b:Int)+1):=rfl
theorem zus (pb:Nat) (A:Au) (a b v:Nat) (had:Bool) (cy co:Int) (w0 w:World) (F:HP) (hs:Sat w0 w (auP pb A*F)) (hA:AOk A) (hok:okN 11 a b v=true) (hv:VOk 11 v) :
  Calls Tryz.prog 21 #[.pointer (some ⟨pb,0,none⟩),evA 11 a b v cy co,.bool had] w (Aft w0 pb A 11 a b v had F):=by
 have hs:=zsU hs;have ha:a<64:=by simp [okN,shp,win] at hok;omega
 have hb:b<32:=by simp [okN,shp,win] at hok;omega
 have Hr:=hid (zw3 A a b v had);have i1:(a:Int)<64:=by omega
 have i2:decide (a<64)=true:=by simp;omega
 haveI:Lt a A.ts.length:=⟨by rw [hA.lt];omega⟩
 go_enter Tryz.func21,Tryz.ntmps21
 go_wp2_with fail;go_quiet (fail);go_wp2_with fail;go_ret;refine zsT ?_ (zsS ?_)
 ·rw [Hr.out];exact zwr _ _
 ·dsimp only [znq,setT,z4y];exact z3
theorem zw6 (A:Au) (a b v:Nat) (had:Bool):zob A 16 a b v had=(decide (a<64∧(z4y A a).st=2∧(z4y A a).on=96+b) || zcz A a):=rfl
theorem zw7 (A:Au) (a b v:Nat) (had:Bool):zob A 17 a b v had=(decide (a<64∧(z4y A a).st=2∧(z4y A a).on=128+b) || zcz A a):=rfl
theorem zux (pb:Nat) (A:Au) (a b v:Nat) (had:Bool) (cy co:Int) (w0 w:World) (F:HP) (hs:Sat w0 w (auP pb A*F)) (hA:AOk A) (hok:okN 16 a b v=true) (hv:VOk 16 v) :
  Calls Tryz.prog 21 #[.pointer (some ⟨pb,0,none⟩),evA 16 a b v cy co,.bool had] w (Aft w0 pb A 16 a b v had F):=by
 have hs:=zsU hs;have ha:a<80:=by simp [okN,shp,win] at hok;omega
 have hb:b<32:=by simp [okN,shp,win] at hok;omega
 have Hr:=hid (zw6 A a b v had);have h3:(tkg A.ts a).st=(z4y A a).st:=rfl;have h4:(tkg A.ts a).on=(z4y A a).on:=rfl
 by_cases h1:a<64
 ·have i1:(a:Int)<64:=by omega
  have i2:decide (a<64)=true:=by simp;omega
  have i3:decide ((a:Int)<64)=true:=by simp;omega
  haveI:Lt a A.ts.length:=⟨by rw [hA.lt];omega⟩;have hon:=hA.on _ (ztm (l:=A.ts) (k:=a) this.lt)
  by_cases h2:(z4y A a).st=2
  ·have e2:((tkg A.ts a).st==2)=true:=by rw [h3];simp [h2]
   by_cases h5:(z4y A a).on=96+b
   ·have e3:(((tkg A.ts a).on:Int)==96+(b:Int))=true:=by rw [h4];simp;omega
    rw [decide_eq_true ⟨h1,h2,h5⟩,Bool.true_or] at Hr;clear h1 h2 h3 h4 h5
    go_enter Tryz.func21,Tryz.ntmps21
    go_wp2_with fail;go_quiet (fail);go_wp2_with fail
    skip
    go_ret;refine zsT ?_ (zsS ?_)
    ·first | (rw [Hr.out];done) | (rw [Hr.out];rfl)
    ·dsimp only [znq];exact z3
   ·have e3:(((tkg A.ts a).on:Int)==96+(b:Int))=false:=by rw [h4];simp;omega
    rw [decide_eq_false (fun h=>h5 h.2.2),Bool.false_or] at Hr;clear h1 h2 h3 h4 h5
    go_enter Tryz.func21,Tryz.ntmps21
    go_wp2_with fail;go_quiet (fail);go_wp2_with fail;refine (zt8 pb A a w0 _ any (zsS z3) hA (by omega)).mono ?_;rintro e w' ⟨rfl,rfl⟩;go_wp2_with fail;go_ret;refine zsT ?_ (zsS ?_)
    ·first | (rw [Hr.out];done) | (rw [Hr.out];rfl)
    ·dsimp only [znq];exact z3
  ·have e2:((tkg A.ts a).st==2)=false:=by rw [h3];simp [h2]
   rw [decide_eq_false (fun h=>h2 h.2.1),Bool.false_or] at Hr;clear h1 h2 h3 h4
   go_enter Tryz.func21,Tryz.ntmps21
   go_wp2_with fail;go_quiet (fail);go_wp2_with fail;refine (zt8 pb A a w0 _ any (zsS z3) hA (by omega)).mono ?_;rintro e w' ⟨rfl,rfl⟩;go_wp2_with fail;go_ret;refine zsT ?_ (zsS ?_)
   ·first | (rw [Hr.out];done) | (rw [Hr.out];rfl)
   ·dsimp only [znq];exact z3
 ·have i3:decide ((a:Int)<64)=false:=by simp;omega
  rw [decide_eq_false (fun h=>h1 h.1),Bool.false_or] at Hr;clear h1 h3 h4
  go_enter Tryz.func21,Tryz.ntmps21
  go_wp2_with fail;go_quiet (fail);go_wp2_with fail;refine (zt8 pb A a w0 _ any (zsS z3) hA (by omega)).mono ?_;rintro e w' ⟨rfl,rfl⟩;go_wp2_with fail;go_ret;refine zsT ?_ (zsS ?_)
  ·first | (rw [Hr.out];done) | (rw [Hr.out];rfl)
  ·dsimp only [znq];exact z3
theorem zuy (pb:Nat) (A:Au) (a b v:Nat) (had:Bool) (cy co:Int) (w0 w:World) (F:HP) (hs:Sat w0 w (auP pb A*F)) (hA:AOk A) (hok:okN 17 a b v=true) (hv:VOk 17 v) :
  Calls Tryz.prog 21 #[.pointer (some ⟨pb,0,none⟩),evA 17 a b v cy co,.bool had] w (Aft w0 pb A 17 a b v had F):=by
 have hs:=zsU hs;have ha:a<80:=by simp [okN,shp,win] at hok;omega
 have hb:b<32:=by simp [okN,shp,win] at hok;omega
 have Hr:=hid (zw7 A a b v had);have h3:(tkg A.ts a).st=(z4y A a).st:=rfl;have h4:(tkg A.ts a).on=(z4y A a).on:=rfl
 by_cases h1:a<64
 ·have i1:(a:Int)<64:=by omega
  have i2:decide (a<64)=true:=by simp;omega
  have i3:decide ((a:Int)<64)=true:=by simp;omega
  haveI:Lt a A.ts.length:=⟨by rw [hA.lt];omega⟩;have hon:=hA.on _ (ztm (l:=A.ts) (k:=a) this.lt)
  by_cases h2:(z4y A a).st=2
  ·have e2:((tkg A.ts a).st==2)=true:=by rw [h3];simp [h2]
   by_cases h5:(z4y A a).on=128+b
   ·have e3:(((tkg A.ts a).on:Int)==128+(b:Int))=true:=by rw [h4];simp;omega
    rw [decide_eq_true ⟨h1,h2,h5⟩,Bool.true_or] at Hr;clear h1 h2 h3 h4 h5
    go_enter Tryz.func21,Tryz.ntmps21
    go_wp2_with fail;go_quiet (fail);go_wp2_with fail
    skip
    go_ret;refine zsT ?_ (zsS ?_)
    ·first | (rw [Hr.out];done) | (rw [Hr.out];rfl)
    ·dsimp only [znq];exact z3
   ·have e3:(((tkg A.ts a).on:Int)==128+(b:Int))=false:=by rw [h4];simp;omega
    rw [decide_eq_false (fun h=>h5 h.2.2),Bool.false_or] at Hr;clear h1 h2 h3 h4 h5
    go_enter Tryz.func21,Tryz.ntmps21
    go_wp2_with fail;go_quiet (fail);go_wp2_with fail;refine (zt8 pb A a w0 _ any (zsS z3) hA (by omega)).mono ?_;rintro e w' ⟨rfl,rfl⟩;go_wp2_with fail;go_ret;refine zsT ?_ (zsS ?_)
    ·first | (rw [Hr.out];done) | (rw [Hr.out];rfl)
    ·dsimp only [znq];exact z3
  ·have e2:((tkg A.ts a).st==2)=false:=by rw [h3];simp [h2]
   rw [decide_eq_false (fun h=>h2 h.2.1),Bool.false_or] at Hr;clear h1 h2 h3 h4
   go_enter Tryz.func21,Tryz.ntmps21
   go_wp2_with fail;go_quiet (fail);go_wp2_with fail;refine (zt8 pb A a w0 _ any (zsS z3) hA (by omega)).mono ?_;rintro e w' ⟨rfl,rfl⟩;go_wp2_with fail;go_ret;refine zsT ?_ (zsS ?_)
   ·first | (rw [Hr.out];done) | (rw [Hr.out];rfl)
   ·dsimp only [znq];exact z3
 ·have i3:decide ((a:Int)<64)=false:=by simp;omega
  rw [decide_eq_false (fun h=>h1 h.1),Bool.false_or] at Hr;clear h1 h3 h4
  go_enter Tryz.func21,Tryz.ntmps21
  go_wp2_with fail;go_quiet (fail);go_wp2_with fail;refine (zt8 pb A a w0 _ any (zsS z3) hA (by omega)).mono ?_;rintro e w' ⟨rfl,rfl⟩;go_wp2_with fail;go_ret;refine zsT ?_ (zsS ?_)
  ·first | (rw [Hr.out];done) | (rw [Hr.out];rfl)
  ·dsimp only [znq];exact z3
theorem zuq (pb:Nat) (A:Au) (k a b v:Nat) (hk:1≤k∧k≤24) (had:Bool) (cy co:Int) (w0 w:World) (F:HP) (hs:Sat w0 w (auP pb A*F)) (hA:AOk A) (hok:okN k a b v=true) (hv:VOk k v) :
  Calls Tryz.prog 21 #[.pointer (some ⟨pb,0,none⟩),evA k a b v cy co,.bool had] w (Aft w0 pb A k a b v had F):=by
 have h:k=1∨k=2∨k=3∨k=4∨k=5∨k=6∨k=7∨k=8∨k=9∨k=10∨k=11∨k=12∨k=13∨k=14∨k=15∨k=16∨k=17∨k=18∨k=19∨k=20∨k=21∨k=22∨k=23∨k=24:=by omega
 rcases h with rfl | rfl | rfl | rfl | rfl | rfl | rfl | rfl | rfl | rfl | rfl | rfl | rfl | rfl | rfl | rfl | rfl | rfl | rfl | rfl | rfl | rfl | rfl | rfl
 ·exact zv5 pb A a b v had cy co w0 w F hs hA hok hv
 ·exact zv6 pb A a b v had cy co w0 w F hs hA hok hv
 ·exact zv7 pb A a b v had cy co w0 w F hs hA hok hv
 ·exact zv8 pb A a b v had cy co w0 w F hs hA hok hv
 ·exact zv9 pb A a b v had cy co w0 w F hs hA hok hv
 ·exact zva pb A a b v had cy co w0 w F hs hA hok hv
 ·exact zvb pb A a b v had cy co w0 w F hs hA hok hv
 ·exact zvc pb A a b v had cy co w0 w F hs hA hok hv
 ·exact zvd pb A a b v had cy co w0 w F hs hA hok hv
 ·exact zur pb A a b v had cy co w0 w F hs hA hok hv
 ·exact zus pb A a b v had cy co w0 w F hs hA hok hv
 ·exact zut pb A a b v had cy co w0 w F hs hA hok hv
 ·exact zuu pb A a b v had cy co w0 w F hs hA hok hv
 ·exact zuv pb A a b v had cy co w0 w F hs hA hok hv
 ·exact zuw pb A a b v had cy co w0 w F hs hA hok hv
 ·exact zux pb A a b v had cy co w0 w F hs hA hok hv
 ·exact zuy pb A a b v had cy co w0 w F hs hA hok hv
 ·exact zuz pb A a b v had cy co w0 w F hs hA hok hv
 ·exact zuA pb A a b v had cy co w0 w F hs hA hok hv
 ·exact zuB pb A a b v had cy co w0 w F hs hA hok hv
 ·exact zuC pb A a b v had cy co w0 w F hs hA hok hv
 ·exact zuD pb A a b v had cy co w0 w F hs hA hok hv
 ·exact zuE pb A a b v had cy co w0 w F hs hA hok hv
 ·exact zuF pb A a b v had cy co w0 w F hs hA hok hv
def Nx (w0:World) (pb:Nat) (A:Au) (e:Ev) (F:HP) (en:Ending) (w':World):Prop :=
 en=.returned (.bool (zm5 A e))∧(zm5 A e=true→Sat w0 w' (auP pb (znJ A e)*F))∧(zm5 A e=false→Sat w0 w' (pts pb 0 [.int .i64 A.seen,.bool true]*(F*any)))
section
variable {w0 w':World} {pb:Nat} {A:Au} {e:Ev} {F:HP}
theorem ztB (hr:zm5 A e=false) (hs:Sat w0 w' (pts pb 0 [.int .i64 A.seen,.bool true]*(F*any))):Nx w0 pb A e F (.returned (.bool false)) w' :=
 ⟨by rw [hr],fun h=>(by rw [hr] at h;cases h),fun _=>hs⟩
theorem zvv (hr:zm5 A e=true) (hs:Sat w0 w' (auP pb (znJ A e)*F)):Nx w0 pb A e F (.returned (.bool true)) w' :=
 ⟨by rw [hr],fun _=>hs,fun h=>(by rw [hr] at h;cases h)⟩
end
theorem zuJ (pb:Nat) (A:Au) (k:Int) (cy co:Int) (a b v:Nat) (w0 w:World) (F:HP) (hs:Sat w0 w (auP pb A*F)) (hno:okE ⟨k,cy,co,a,b,v⟩=false) :
  Calls Tryz.prog 9 #[.pointer (some ⟨pb,0,none⟩),evV ⟨k,cy,co,a,b,v⟩] w (Nx w0 pb A ⟨k,cy,co,a,b,v⟩ F):=by
 have hs:=zsU hs;have Hk:Hid (zm5 A ⟨k,cy,co,a,b,v⟩=false):=by unfold Hid zm5 zlU;rw [hno];rfl
 unfold evV;dsimp only;have Hno:=hid hno;clear hno
 go_enter Tryz.func9,Tryz.ntmps9
 go_wp2_with fail;refine z9 (w0:=w0) ?_;intro wx hsx;refine zj (fun w'=>Sat w0 w' (pts w.heap.size 0 [.int .i64 k,.int .u64 cy,.int .u64 co,.int .u32 a,.int .u32 b,.int .u32 v]*any)) [(0,true),(1,false),(2,true),(3,true),(4,true),(5,true),(6,true),(7,true),(8,true),(9,true),(10,true),(11,true),(12,true),(13,true),(14,true),(15,true),(16,true),(17,true),(18,true),(19,true),(20,true),(21,true),(22,true),(23,true),(24,true),(25,true),(26,true),(27,true),(28,true),(29,true),(30,true),(31,true)] (by kernel_rfl) (by kernel_rfl) (fun _ _ _ _ h=>h) zq ?_
 iterate 1 (first | refine zsR ?_ | refine zsQ ?_)
 refine z29 rfl (by rfl) (fun K hK=>?_);go_wp2_with fail;refine (ztc k cy co a b v w0 _ _).mono ?_;rintro en w1 ⟨n,rfl,hn,hs1⟩;have hn0:(n==0)=false:=by
  rw [Hno.out] at hn;simp at hn;simp [hn]
 clear hn;go_wp2_with fail;refine ⟨zq,?_⟩
 iterate 30 (first | refine zsR ?_ | refine zsQ ?_)
 refine zB ?_;go_wp2_with fail;go_quiet (fail);go_wp2_with fail;go_ret;exact ztB Hk.out z3
theorem ztF (pb:Nat) (A:Au) (k:Int) (cy co:Int) (a b v:Nat) (w0 w:World) (F:HP) (hs:Sat w0 w (auP pb A*F)) (hno:okE ⟨k,cy,co,a,b,v⟩=true) (h1:A.last.k=24) :
  Calls Tryz.prog 9 #[.pointer (some ⟨pb,0,none⟩),evV ⟨k,cy,co,a,b,v⟩] w (Nx w0 pb A ⟨k,cy,co,a,b,v⟩ F):=by
 have hs:=zsU hs;have Hk:Hid (zm5 A ⟨k,cy,co,a,b,v⟩=false):=by unfold Hid zm5 zlU;simp [h1]
 unfold evV;dsimp only;have Hno:=hid hno;have d1:(A.last.k != 24)=false:=by simp [h1]
 clear hno h1
 go_enter Tryz.func9,Tryz.ntmps9
 go_wp2_with fail;refine z9 (w0:=w0) ?_;intro wx hsx;refine zj (fun w'=>Sat w0 w' (pts w.heap.size 0 [.int .i64 k,.int .u64 cy,.int .u64 co,.int .u32 a,.int .u32 b,.int .u32 v]*(pts pb 2 (zjY A.last)*any))) [(0,true),(1,false),(2,true),(3,true),(4,true),(5,true),(6,true),(7,true),(8,true),(9,true),(10,true),(11,true),(12,true),(13,true),(14,true),(15,true),(16,true),(17,true),(18,true),(19,true),(20,true),(21,true),(22,true),(23,true),(24,true),(25,true),(26,true),(27,true),(28,true),(29,true),(30,true),(31,true)] (by kernel_rfl) (by kernel_rfl) (fun _ _ _ _ h=>h) zk ?_
 iterate 1 (first | refine zsR ?_ | refine zsQ ?_)
 refine z29 rfl (by rfl) (fun K hK=>?_);go_wp2_with fail;refine (ztc k cy co a b v w0 _ _).mono ?_;rintro en w1 ⟨n,rfl,hn,hs1⟩;obtain rfl:n=0:=hn.2 Hno.out;clear hn;go_wp2_with fail;refine ⟨zk,?_⟩
 iterate 30 (first | refine zsR ?_ | refine zsQ ?_)
 refine zB ?_;go_wp2_with fail;go_quiet (fail);go_wp2_with fail;go_ret;exact ztB Hk.out z3
theorem zuH (pb:Nat) (A:Au) (k:Int) (cy co:Int) (a b v:Nat) (w0 w:World) (F:HP) (hs:Sat w0 w (auP pb A*F)) (hno:okE ⟨k,cy,co,a,b,v⟩=true) (h1:A.last.k≠24) (h2:¬ A.last.co≤co) :
  Calls Tryz.prog 9 #[.pointer (some ⟨pb,0,none⟩),evV ⟨k,cy,co,a,b,v⟩] w (Nx w0 pb A ⟨k,cy,co,a,b,v⟩ F):=by
 have hs:=zsU hs;have Hk:Hid (zm5 A ⟨k,cy,co,a,b,v⟩=false):=by unfold Hid zm5 zlU;simp [h2]
 unfold evV;dsimp only;have Hno:=hid hno;have d1:(A.last.k != 24)=true:=by simp [h1]
 have d2:decide (A.last.co≤co)=false:=by simp;omega
 clear hno h1 h2
 go_enter Tryz.func9,Tryz.ntmps9
 go_wp2_with fail;refine z9 (w0:=w0) ?_;intro wx hsx;refine zj (fun w'=>Sat w0 w' (pts w.heap.size 0 [.int .i64 k,.int .u64 cy,.int .u64 co,.int .u32 a,.int .u32 b,.int .u32 v]*(pts pb 2 (zjY A.last)*any))) [(0,true),(1,false),(2,true),(3,true),(4,true),(5,true),(6,true),(7,true),(8,true),(9,true),(10,true),(11,true),(12,true),(13,true),(14,true),(15,true),(16,true),(17,true),(18,true),(19,true),(20,true),(21,true),(22,true),(23,true),(24,true),(25,true),(26,true),(27,true),(28,true),(29,true),(30,true),(31,true)] (by kernel_rfl) (by kernel_rfl) (fun _ _ _ _ h=>h) zk ?_
 iterate 1 (first | refine zsR ?_ | refine zsQ ?_)
 refine z29 rfl (by rfl) (fun K hK=>?_);go_wp2_with fail;refine (ztc k cy co a b v w0 _ _).mono ?_;rintro en w1 ⟨n,rfl,hn,hs1⟩;obtain rfl:n=0:=hn.2 Hno.out;clear hn;go_wp2_with fail;refine ⟨zk,?_⟩
 iterate 30 (first | refine zsR ?_ | refine zsQ ?_)
 refine zB ?_;go_wp2_with fail;go_quiet (fail);go_wp2_with fail;go_ret;exact ztB Hk.out z3
theorem zuI (pb:Nat) (A:Au) (k:Int) (cy co:Int) (a b v:Nat) (w0 w:World) (F:HP) (hs:Sat w0 w (auP pb A*F)) (hno:okE ⟨k,cy,co,a,b,v⟩=true) (h1:A.last.k≠24) (h2:A.last.co≤co) (h3:¬ A.last.cy≤cy) :
  Calls Tryz.prog 9 #[.pointer (some ⟨pb,0,none⟩),evV ⟨k,cy,co,a,b,v⟩] w (Nx w0 pb A ⟨k,cy,co,a,b,v⟩ F):=by
 have hs:=zsU hs;have Hk:Hid (zm5 A ⟨k,cy,co,a,b,v⟩=false):=by unfold Hid zm5 zlU;simp [h3]
 unfold evV;dsimp only;have Hno:=hid hno;have d1:(A.last.k != 24)=true:=by simp [h1]
 have d2:decide (A.last.co≤co)=true:=by simp;omega
 have d3:decide (A.last.cy≤cy)=false:=by simp;omega
 clear hno h1 h2 h3
 go_enter Tryz.func9,Tryz.ntmps9
 go_wp2_with fail;refine z9 (w0:=w0) ?_;intro wx hsx;refine zj (fun w'=>Sat w0 w' (pts w.heap.size 0 [.int .i64 k,.int .u64 cy,.int .u64 co,.int .u32 a,.int .u32 b,.int .u32 v]*(pts pb 2 (zjY A.last)*any))) [(0,true),(1,false),(2,true),(3,true),(4,true),(5,true),(6,true),(7,true),(8,true),(9,true),(10,true),(11,true),(12,true),(13,true),(14,true),(15,true),(16,true),(17,true),(18,true),(19,true),(20,true),(21,true),(22,true),(23,true),(24,true),(25,true),(26,true),(27,true),(28,true),(29,true),(30,true),(31,true)] (by kernel_rfl) (by kernel_rfl) (fun _ _ _ _ h=>h) zk ?_
 iterate 1 (first | refine zsR ?_ | refine zsQ ?_)
 refine z29 rfl (by rfl) (fun K hK=>?_);go_wp2_with fail;refine (ztc k cy co a b v w0 _ _).mono ?_;rintro en w1 ⟨n,rfl,hn,hs1⟩;obtain rfl:n=0:=hn.2 Hno.out;clear hn;go_wp2_with fail;refine ⟨zk,?_⟩
 iterate 30 (first | refine zsR ?_ | refine zsQ ?_)
 refine zB ?_;go_wp2_with fail;go_quiet (fail);go_wp2_with fail;go_ret;exact ztB Hk.out z3
theorem zua (pb:Nat) (A:Au) (k:Int) (cy co:Int) (a b v:Nat) (w0 w:World) (F:HP) (hs:Sat w0 w (auP pb A*F)) (hno:okE ⟨k,cy,co,a,b,v⟩=true) (h1:A.last.k≠24) (h2:A.last.co≤co) (h3:A.last.cy≤cy) (dk:Int) (da db:Nat) (hd:A.due=⟨dk,da,db⟩) (h4:dk≠0) (h5:¬ (dk=k∧da=a∧db=b)) :
  Calls Tryz.prog 9 #[.pointer (some ⟨pb,0,none⟩),evV ⟨k,cy,co,a,b,v⟩] w (Nx w0 pb A ⟨k,cy,co,a,b,v⟩ F):=by
 have hs:=zsU hs;have Hk:Hid (zm5 A ⟨k,cy,co,a,b,v⟩=false):=by
  have e1:A.due≠du0:=by rw [hd];intro h;exact h4 (congrArg Du.k h)
  have e2:A.due≠⟨k,a,b⟩:=by rw [hd];intro h;injection h with q1 q2 q3;exact h5 ⟨q1,q2,q3⟩
  unfold Hid zm5 zlU znZ;simp [e1,e2]
 rw [hd] at hs;unfold evV;dsimp only;dsimp only [zt7] at hs;have Hno:=hid hno;have d1:(A.last.k != 24)=true:=by simp [h1]
 have d2:decide (A.last.co≤co)=true:=by simp;omega
 have d3:decide (A.last.cy≤cy)=true:=by simp;omega
 clear hno h1 h2 h3 hd;have g0:¬ dk=0:=h4;clear h4
 by_cases q1:dk=k
 ·subst q1
  by_cases q2:da=a
  ·subst q2;have g1:¬ db=b:=fun h=>h5 ⟨rfl,rfl,h⟩;have g2:¬ (db:Int)=(b:Int):=by omega
   clear h5
   go_enter Tryz.func9,Tryz.ntmps9
   go_wp2_with fail;refine z9 (w0:=w0) ?_;intro wx hsx;refine zj (fun w'=>Sat w0 w' (pts w.heap.size 0 [.int .i64 dk,.int .u64 cy,.int .u64 co,.int .u32 da,.int .u32 b,.int .u32 v]*(pts pb 2 (zjY A.last)*any))) [(0,true),(1,false),(2,true),(3,true),(4,true),(5,true),(6,true),(7,true),(8,true),(9,true),(10,true),(11,true),(12,true),(13,true),(14,true),(15,true),(16,true),(17,true),(18,true),(19,true),(20,true),(21,true),(22,true),(23,true),(24,true),(25,true),(26,true),(27,true),(28,true),(29,true),(30,true),(31,true)] (by kernel_rfl) (by kernel_rfl) (fun _ _ _ _ h=>h) zk ?_
   iterate 1 (first | refine zsR ?_ | refine zsQ ?_)
   refine z29 rfl (by rfl) (fun K hK=>?_);go_wp2_with fail;refine (ztc dk cy co da b v w0 _ _).mono ?_;rintro en w1 ⟨n,rfl,hn,hs1⟩;obtain rfl:n=0:=hn.2 Hno.out;clear hn;go_wp2_with fail;refine ⟨zk,?_⟩
   iterate 30 (first | refine zsR ?_ | refine zsQ ?_)
   refine zB ?_;clear hs hsx;go_wp2_with fail;go_quiet (fail);go_wp2_with fail;go_ret;exact ztB Hk.out z3
  ·have g1:¬ da=a:=q2;have g2:¬ (da:Int)=(a:Int):=by omega
   clear h5 q2
   go_enter Tryz.func9,Tryz.ntmps9
   go_wp2_with fail;refine z9 (w0:=w0) ?_;intro wx hsx;refine zj (fun w'=>Sat w0 w' (pts w.heap.size 0 [.int .i64 dk,.int .u64 cy,.int .u64 co,.int .u32 a,.int .u32 b,.int .u32 v]*(pts pb 2 (zjY A.last)*any))) [(0,true),(1,false),(2,true),(3,true),(4,true),(5,true),(6,true),(7,true),(8,true),(9,true),(10,true),(11,true),(12,true),(13,true),(14,true),(15,true),(16,true),(17,true),(18,true),(19,true),(20,true),(21,true),(22,true),(23,true),(24,true),(25,true),(26,true),(27,true),(28,true),(29,true),(30,true),(31,true)] (by kernel_rfl) (by kernel_rfl) (fun _ _ _ _ h=>h) zk ?_
   iterate 1 (first | refine zsR ?_ | refine zsQ ?_)
   refine z29 rfl (by rfl) (fun K hK=>?_);go_wp2_with fail;refine (ztc dk cy co a b v w0 _ _).mono ?_;rintro en w1 ⟨n,rfl,hn,hs1⟩;obtain rfl:n=0:=hn.2 Hno.out;clear hn;go_wp2_with fail;refine ⟨zk,?_⟩
   iterate 30 (first | refine zsR ?_ | refine zsQ ?_)
   refine zB ?_;clear hs hsx;go_wp2_with fail;go_quiet (fail);go_wp2_with fail;go_ret;exact ztB Hk.out z3
 ·have g1:¬ dk=k:=q1;clear h5 q1
  go_enter Tryz.func9,Tryz.ntmps9
  go_wp2_with fail;refine z9 (w0:=w0) ?_;intro wx hsx;refine zj (fun w'=>Sat w0 w' (pts w.heap.size 0 [.int .i64 k,.int .u64 cy,.int .u64 co,.int .u32 a,.int .u32 b,.int .u32 v]*(pts pb 2 (zjY A.last)*any))) [(0,true),(1,false),(2,true),(3,true),(4,true),(5,true),(6,true),(7,true),(8,true),(9,true),(10,true),(11,true),(12,true),(13,true),(14,true),(15,true),(16,true),(17,true),(18,true),(19,true),(20,true),(21,true),(22,true),(23,true),(24,true),(25,true),(26,true),(27,true),(28,true),(29,true),(30,true),(31,true)] (by kernel_rfl) (by kernel_rfl) (fun _ _ _ _ h=>h) zk ?_
  iterate 1 (first | refine zsR ?_ | refine zsQ ?_)
  refine z29 rfl (by rfl) (fun K hK=>?_);go_wp2_with fail;refine (ztc k cy co a b v w0 _ _).mono ?_;rintro en w1 ⟨n,rfl,hn,hs1⟩;obtain rfl:n=0:=hn.2 Hno.out;clear hn;go_wp2_with fail;refine ⟨zk,?_⟩
  iterate 30 (first | refine zsR ?_ | refine zsQ ?_)
  refine zB ?_;clear hs hsx;go_wp2_with fail;go_quiet (fail);go_wp2_with fail;go_ret;exact ztB Hk.out z3
end Go.Proofs.YtgiiidminlhbpaaGreatDoor
