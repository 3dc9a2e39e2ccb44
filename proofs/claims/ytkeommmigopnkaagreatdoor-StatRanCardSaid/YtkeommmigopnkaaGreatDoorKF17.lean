/-
  Parts of the proof: StQ StR AuditRc StS StO.
-/
import Derived.Test.YtkeommmigopnkaaGreatDoorKF7
import Derived.Test.YtkeommmigopnkaaGreatDoorKF9
import Derived.Test.YtkeommmigopnkaaGreatDoorKF11
import Derived.Test.YtkeommmigopnkaaGreatDoorKF16
set_option linter.unusedVariables false
set_option linter.unusedSimpArgs false
set_option maxHeartbeats 32000000
set_option maxRecDepth 100000
namespace Go.Proofs.YtkeommmigopnkaaGreatDoor
open Go.RowKit Go.Sx Go.Au Go.Hi Go.St
def tskE (e:Ev):Int :=
 if e.k=1∨e.k=3∨e.k=4∨e.k=18∨e.k=24 then -1
 else if e.k=2∨e.k=20 then (if e.b<64 then e.b else -1)
 else (if e.a<64 then e.a else -1)
theorem stray_tsk {n:Nat} (hn:n≤64) (e:Ev):strayE n e=(decide ((n:Int)≤tskE e) || (decide (e.k=5) && outT n e.b)):=by
 unfold strayE tskE outT
 by_cases h1:e.k=1∨e.k=3∨e.k=4∨e.k=18∨e.k=24
 ·rw [if_pos h1,if_pos h1];rw [decide_eq_false (show ¬ (n:Int)≤-1 by omega),decide_eq_false (show ¬ e.k=5 by omega)];rfl
 ·rw [if_neg h1,if_neg h1]
  by_cases h2:e.k=2∨e.k=20
  ·rw [if_pos h2,if_pos h2,decide_eq_false (show ¬ e.k=5 by omega),Bool.false_and,Bool.or_false]
   by_cases h3:e.b<64
   ·rw [if_pos h3,decide_eq_true h3,Bool.true_and];exact decide_eq_decide.2 (by omega)
   ·rw [if_neg h3,decide_eq_false h3,Bool.false_and,decide_eq_false (by omega)]
  ·rw [if_neg h2,if_neg h2];have key:(decide (e.a<64) && decide (n≤e.a))=decide ((n:Int)≤if e.a<64 then (e.a:Int) else -1):=by
    by_cases h3:e.a<64
    ·rw [if_pos h3,decide_eq_true h3,Bool.true_and];exact decide_eq_decide.2 (by omega)
    ·rw [if_neg h3,decide_eq_false h3,Bool.false_and,decide_eq_false (by omega)]
   rw [← key]
   by_cases h5:e.k=5
   ·rw [if_pos h5,decide_eq_true h5,Bool.true_and]
   ·rw [if_neg h5,decide_eq_false h5,Bool.false_and,Bool.or_false]
theorem rTask1 (cy co:Int) (a b v:Nat) (ha:a<4294967296) (hb:b<4294967296) (w0 w:World) (F:HP) (hs:Sat w0 w F) :
  Calls Tryz.prog 23 #[evX ⟨1,cy,co,a,b,v⟩] w (RetV w0 (.int .i64 (tskE ⟨1,cy,co,a,b,v⟩)) F):=by
 have ua:IntKind.i64.wrap (a:Int)=a:=by rw [IntKind.wrap_i64];omega
 have ub:IntKind.i64.wrap (b:Int)=b:=by rw [IntKind.wrap_i64];omega
 have hr:Hid (tskE ⟨1,cy,co,a,b,v⟩=-1):=rfl
 go_enter Tryz.func23,Tryz.ntmps23
 go_wp2_with fail;go_ret;exact ⟨by rw [hr.out];rfl,own_left⟩
theorem rTask3 (cy co:Int) (a b v:Nat) (ha:a<4294967296) (hb:b<4294967296) (w0 w:World) (F:HP) (hs:Sat w0 w F) :
  Calls Tryz.prog 23 #[evX ⟨3,cy,co,a,b,v⟩] w (RetV w0 (.int .i64 (tskE ⟨3,cy,co,a,b,v⟩)) F):=by
 have ua:IntKind.i64.wrap (a:Int)=a:=by rw [IntKind.wrap_i64];omega
 have ub:IntKind.i64.wrap (b:Int)=b:=by rw [IntKind.wrap_i64];omega
 have hr:Hid (tskE ⟨3,cy,co,a,b,v⟩=-1):=rfl
 go_enter Tryz.func23,Tryz.ntmps23
 go_wp2_with fail;go_ret;exact ⟨by rw [hr.out];rfl,own_left⟩
theorem rTask4 (cy co:Int) (a b v:Nat) (ha:a<4294967296) (hb:b<4294967296) (w0 w:World) (F:HP) (hs:Sat w0 w F) :
  Calls Tryz.prog 23 #[evX ⟨4,cy,co,a,b,v⟩] w (RetV w0 (.int .i64 (tskE ⟨4,cy,co,a,b,v⟩)) F):=by
 have ua:IntKind.i64.wrap (a:Int)=a:=by rw [IntKind.wrap_i64];omega
 have ub:IntKind.i64.wrap (b:Int)=b:=by rw [IntKind.wrap_i64];omega
 have hr:Hid (tskE ⟨4,cy,co,a,b,v⟩=-1):=rfl
 go_enter Tryz.func23,Tryz.ntmps23
 go_wp2_with fail;go_ret;exact ⟨by rw [hr.out];rfl,own_left⟩
theorem rTask18 (cy co:Int) (a b v:Nat) (ha:a<4294967296) (hb:b<4294967296) (w0 w:World) (F:HP) (hs:Sat w0 w F) :
  Calls Tryz.prog 23 #[evX ⟨18,cy,co,a,b,v⟩] w (RetV w0 (.int .i64 (tskE ⟨18,cy,co,a,b,v⟩)) F):=by
 have ua:IntKind.i64.wrap (a:Int)=a:=by rw [IntKind.wrap_i64];omega
 have ub:IntKind.i64.wrap (b:Int)=b:=by rw [IntKind.wrap_i64];omega
 have hr:Hid (tskE ⟨18,cy,co,a,b,v⟩=-1):=rfl
 go_enter Tryz.func23,Tryz.ntmps23
 go_wp2_with fail;go_ret;exact ⟨by rw [hr.out];rfl,own_left⟩
theorem rTask24 (cy co:Int) (a b v:Nat) (ha:a<4294967296) (hb:b<4294967296) (w0 w:World) (F:HP) (hs:Sat w0 w F) :
  Calls Tryz.prog 23 #[evX ⟨24,cy,co,a,b,v⟩] w (RetV w0 (.int .i64 (tskE ⟨24,cy,co,a,b,v⟩)) F):=by
 have ua:IntKind.i64.wrap (a:Int)=a:=by rw [IntKind.wrap_i64];omega
 have ub:IntKind.i64.wrap (b:Int)=b:=by rw [IntKind.wrap_i64];omega
 have hr:Hid (tskE ⟨24,cy,co,a,b,v⟩=-1):=rfl
 go_enter Tryz.func23,Tryz.ntmps23
 go_wp2_with fail;go_ret;exact ⟨by rw [hr.out];rfl,own_left⟩
theorem rTask2t (cy co:Int) (a b v:Nat) (ha:a<4294967296) (hb:b<4294967296) (h:b<64) (w0 w:World) (F:HP) (hs:Sat w0 w F) :
  Calls Tryz.prog 23 #[evX ⟨2,cy,co,a,b,v⟩] w (RetV w0 (.int .i64 (tskE ⟨2,cy,co,a,b,v⟩)) F):=by
 have ua:IntKind.i64.wrap (a:Int)=a:=by rw [IntKind.wrap_i64];omega
 have ub:IntKind.i64.wrap (b:Int)=b:=by rw [IntKind.wrap_i64];omega
 have hr:Hid (tskE ⟨2,cy,co,a,b,v⟩=b):=if_pos h;have i1:¬ (64:Int)≤(b:Int):=by omega
 go_enter Tryz.func23,Tryz.ntmps23
 go_wp2_with fail;go_ret;exact ⟨by rw [hr.out];rfl,own_left⟩
theorem rTask2f (cy co:Int) (a b v:Nat) (ha:a<4294967296) (hb:b<4294967296) (h:¬ b<64) (w0 w:World) (F:HP) (hs:Sat w0 w F) :
  Calls Tryz.prog 23 #[evX ⟨2,cy,co,a,b,v⟩] w (RetV w0 (.int .i64 (tskE ⟨2,cy,co,a,b,v⟩)) F):=by
 have ua:IntKind.i64.wrap (a:Int)=a:=by rw [IntKind.wrap_i64];omega
 have ub:IntKind.i64.wrap (b:Int)=b:=by rw [IntKind.wrap_i64];omega
 have hr:Hid (tskE ⟨2,cy,co,a,b,v⟩=-1):=if_neg h;have i1:(64:Int)≤(b:Int):=by omega
 go_enter Tryz.func23,Tryz.ntmps23
 go_wp2_with fail;go_ret;exact ⟨by rw [hr.out];rfl,own_left⟩
theorem rTask20t (cy co:Int) (a b v:Nat) (ha:a<4294967296) (hb:b<4294967296) (h:b<64) (w0 w:World) (F:HP) (hs:Sat w0 w F) :
  Calls Tryz.prog 23 #[evX ⟨20,cy,co,a,b,v⟩] w (RetV w0 (.int .i64 (tskE ⟨20,cy,co,a,b,v⟩)) F):=by
 have ua:IntKind.i64.wrap (a:Int)=a:=by rw [IntKind.wrap_i64];omega
 have ub:IntKind.i64.wrap (b:Int)=b:=by rw [IntKind.wrap_i64];omega
 have hr:Hid (tskE ⟨20,cy,co,a,b,v⟩=b):=if_pos h;have i1:¬ (64:Int)≤(b:Int):=by omega
 go_enter Tryz.func23,Tryz.ntmps23
 go_wp2_with fail;go_ret;exact ⟨by rw [hr.out];rfl,own_left⟩
theorem rTask20f (cy co:Int) (a b v:Nat) (ha:a<4294967296) (hb:b<4294967296) (h:¬ b<64) (w0 w:World) (F:HP) (hs:Sat w0 w F) :
  Calls Tryz.prog 23 #[evX ⟨20,cy,co,a,b,v⟩] w (RetV w0 (.int .i64 (tskE ⟨20,cy,co,a,b,v⟩)) F):=by
 have ua:IntKind.i64.wrap (a:Int)=a:=by rw [IntKind.wrap_i64];omega
 have ub:IntKind.i64.wrap (b:Int)=b:=by rw [IntKind.wrap_i64];omega
 have hr:Hid (tskE ⟨20,cy,co,a,b,v⟩=-1):=if_neg h;have i1:(64:Int)≤(b:Int):=by omega
 go_enter Tryz.func23,Tryz.ntmps23
 go_wp2_with fail;go_ret;exact ⟨by rw [hr.out];rfl,own_left⟩
theorem rTaskOt (k:Int) (cy co:Int) (a b v:Nat) (ha:a<4294967296) (hb:b<4294967296) (hk:k≠1∧k≠3∧k≠4∧k≠18∧k≠24∧k≠2∧k≠20) (h:a<64) (w0 w:World) (F:HP) (hs:Sat w0 w F) :
  Calls Tryz.prog 23 #[evX ⟨k,cy,co,a,b,v⟩] w (RetV w0 (.int .i64 (tskE ⟨k,cy,co,a,b,v⟩)) F):=by
 have ua:IntKind.i64.wrap (a:Int)=a:=by rw [IntKind.wrap_i64];omega
 have ub:IntKind.i64.wrap (b:Int)=b:=by rw [IntKind.wrap_i64];omega
 have hr:Hid (tskE ⟨k,cy,co,a,b,v⟩=a):=by unfold Hid tskE;dsimp only;rw [if_neg (by omega),if_neg (by omega),if_pos h]
 have i1:¬ (64:Int)≤(a:Int):=by omega
 obtain ⟨k1,k2,k3,k4,k5,k6,k7⟩:=hk;have f1:(k==1)=false:=by simp [k1]
 have f2:(k==3)=false:=by simp [k2]
 have f3:(k==4)=false:=by simp [k3]
 have f4:(k==18)=false:=by simp [k4]
 have f5:(k==24)=false:=by simp [k5]
 have f6:(k==2)=false:=by simp [k6]
 have f7:(k==20)=false:=by simp [k7]
 clear k1 k2 k3 k4 k5 k6 k7
 go_enter Tryz.func23,Tryz.ntmps23
 go_wp2_with fail;go_ret;exact ⟨by rw [hr.out];rfl,own_left⟩
theorem rTaskOf (k:Int) (cy co:Int) (a b v:Nat) (ha:a<4294967296) (hb:b<4294967296) (hk:k≠1∧k≠3∧k≠4∧k≠18∧k≠24∧k≠2∧k≠20) (h:¬ a<64) (w0 w:World) (F:HP) (hs:Sat w0 w F) :
  Calls Tryz.prog 23 #[evX ⟨k,cy,co,a,b,v⟩] w (RetV w0 (.int .i64 (tskE ⟨k,cy,co,a,b,v⟩)) F):=by
 have ua:IntKind.i64.wrap (a:Int)=a:=by rw [IntKind.wrap_i64];omega
 have ub:IntKind.i64.wrap (b:Int)=b:=by rw [IntKind.wrap_i64];omega
 have hr:Hid (tskE ⟨k,cy,co,a,b,v⟩=-1):=by unfold Hid tskE;dsimp only;rw [if_neg (by omega),if_neg (by omega),if_neg h]
 have i1:(64:Int)≤(a:Int):=by omega
 obtain ⟨k1,k2,k3,k4,k5,k6,k7⟩:=hk;have f1:(k==1)=false:=by simp [k1]
 have f2:(k==3)=false:=by simp [k2]
 have f3:(k==4)=false:=by simp [k3]
 have f4:(k==18)=false:=by simp [k4]
 have f5:(k==24)=false:=by simp [k5]
 have f6:(k==2)=false:=by simp [k6]
 have f7:(k==20)=false:=by simp [k7]
 clear k1 k2 k3 k4 k5 k6 k7
 go_enter Tryz.func23,Tryz.ntmps23
 go_wp2_with fail;go_ret;exact ⟨by rw [hr.out];rfl,own_left⟩
theorem rTask (e:Ev) (ha:e.a<4294967296) (hb:e.b<4294967296) (w0 w:World) (F:HP) (hs:Sat w0 w F) :
  Calls Tryz.prog 23 #[evX e] w (RetV w0 (.int .i64 (tskE e)) F):=by
 obtain ⟨k,cy,co,a,b,v⟩:=e
 by_cases h1:k=1
 ·subst h1;exact rTask1 cy co a b v ha hb w0 w F hs
 by_cases h3:k=3
 ·subst h3;exact rTask3 cy co a b v ha hb w0 w F hs
 by_cases h4:k=4
 ·subst h4;exact rTask4 cy co a b v ha hb w0 w F hs
 by_cases h18:k=18
 ·subst h18;exact rTask18 cy co a b v ha hb w0 w F hs
 by_cases h24:k=24
 ·subst h24;exact rTask24 cy co a b v ha hb w0 w F hs
 by_cases h2:k=2
 ·subst h2
  by_cases h:b<64
  ·exact rTask2t cy co a b v ha hb h w0 w F hs
  ·exact rTask2f cy co a b v ha hb h w0 w F hs
 by_cases h20:k=20
 ·subst h20
  by_cases h:b<64
  ·exact rTask20t cy co a b v ha hb h w0 w F hs
  ·exact rTask20f cy co a b v ha hb h w0 w F hs
 by_cases h:a<64
 ·exact rTaskOt k cy co a b v ha hb ⟨h1,h3,h4,h18,h24,h2,h20⟩ h w0 w F hs
 ·exact rTaskOf k cy co a b v ha hb ⟨h1,h3,h4,h18,h24,h2,h20⟩ h w0 w F hs
end Go.Proofs.YtkeommmigopnkaaGreatDoor
namespace Go.Proofs.YtkeommmigopnkaaGreatDoor
open Go.RowKit Go.Sx Go.Dl Go.Lk Go.Rq Go.Au Go.Hi Go.St
theorem rCheck3 (v u:Value) (c:Cf) (rg:CfRng c) (l:List Ev) (hl:l.length<900000) (hev:∀ e∈l,EvOk e) (he:(confF c).err≠0) (w0 w:World) (F:HP) (hr:RdCf w0 v c) (hst:StaysE w0 F u l) (hs:Sat w0 w F)
  (hA0:∀ w,Sat w0 w any→Calls Tryz.prog 21 #[v] w (fun e w'=>∃ f:Ft,e=.returned (ftV f)∧Sat w w' emp∧(f.err=0↔(confF c).err=0)))
  (hB0:∀ w G,Sat w0 w (F*G)→Calls Tryz.prog 22 #[u] w (RetV w0 (.int .i64 (chkI l)) (F*G))) :
  Calls Tryz.prog 9 #[v,u] w (RetV w0 (.int .i64 (stCh c l)) F):=by
 obtain ⟨ua,uc,rfl⟩:∃ ua uc,u=.slice ua l.length uc:=by
  obtain ⟨a,cap,b,off,e,_⟩:=hst w hs;exact ⟨a,cap,e⟩
 have hA:=hid hA0;have hB:=hid hB0;have hC:=hid (show stCh c l=3 from if_neg he);have Hst:=hid hst;have Hev:=hid hev;obtain ⟨ta,la,sa,qa,ma,tc,lc,sc,qc,mc,rfl,h1,h2,h3,h4,h5⟩:=hr.form;clear hr h1 h2 h3 h4 h5 hst hev hA0 hB0
 go_enter Tryz.func9,Tryz.ntmps9
 go_wp2_with fail;refine (hA.out _ own_left).mono ?_;rintro en w1 ⟨f,rfl,hs1,hf⟩;have hs2:=Sat.past (w0:=w0) own_it hs1;have e1:(f.err != 0)=true:=by simp [hf,he]
 clear hs1 hs hA hf he;unfold ftV;go_wp2_with fail;go_ret;exact ⟨by rw [hC.out];rfl,own_left⟩
theorem rCheck1 (v u:Value) (c:Cf) (rg:CfRng c) (l:List Ev) (hl:l.length<900000) (hev:∀ e∈l,EvOk e) (he:(confF c).err=0) (h0:0≤chkI l) (w0 w:World) (F:HP) (hr:RdCf w0 v c) (hst:StaysE w0 F u l) (hs:Sat w0 w F)
  (hA0:∀ w,Sat w0 w any→Calls Tryz.prog 21 #[v] w (fun e w'=>∃ f:Ft,e=.returned (ftV f)∧Sat w w' emp∧(f.err=0↔(confF c).err=0)))
  (hB0:∀ w G,Sat w0 w (F*G)→Calls Tryz.prog 22 #[u] w (RetV w0 (.int .i64 (chkI l)) (F*G))) :
  Calls Tryz.prog 9 #[v,u] w (RetV w0 (.int .i64 (stCh c l)) F):=by
 obtain ⟨ua,uc,rfl⟩:∃ ua uc,u=.slice ua l.length uc:=by
  obtain ⟨a,cap,b,off,e,_⟩:=hst w hs;exact ⟨a,cap,e⟩
 have hA:=hid hA0;have hB:=hid hB0;have hC:=hid (show stCh c l=1 from (if_pos he).trans (if_pos (.inl h0)));have Hst:=hid hst;have Hev:=hid hev;obtain ⟨ta,la,sa,qa,ma,tc,lc,sc,qc,mc,rfl,h1,h2,h3,h4,h5⟩:=hr.form;clear hr h1 h2 h3 h4 h5 hst hev hA0 hB0
 go_enter Tryz.func9,Tryz.ntmps9
 go_wp2_with fail;refine (hA.out _ own_left).mono ?_;rintro en w1 ⟨f,rfl,hs1,hf⟩;have hs2:=Sat.past (w0:=w0) own_it hs1;have e1:(f.err != 0)=false:=by simp [hf,he]
 clear hs1 hs hA hf he;unfold ftV;go_wp2_with fail;have hs4:Sat w0 w1 (F*(pts w.heap.size 0 [.slice ta c.ts.length tc,.slice la c.ls.length lc,.int .i64 c.mutexes,.slice sa c.sems.length sc,.slice qa c.queues.length qc,.slice ma c.timers.length mc,.int .i64 c.table,.int .u32 c.mask,.int .u32 c.filter,.int .i64 c.charge,.int .u64 c.cycle,.int .u64 c.count]*any)):=own_left;refine (hB.out _ _ hs4).mono ?_;rintro en w2 ⟨rfl,hs3⟩;clear hs2 hs4 hB;go_wp2_with fail;go_ret;exact ⟨by rw [hC.out];rfl,own_left⟩
theorem rCheck0 (v u:Value) (c:Cf) (rg:CfRng c) (l:List Ev) (hl:l.length<900000) (hev:∀ e∈l,EvOk e) (he:(confF c).err=0) (h0:¬ 0≤chkI l) (w0 w:World) (F:HP) (hr:RdCf w0 v c) (hst:StaysE w0 F u l) (hs:Sat w0 w F)
  (hA0:∀ w,Sat w0 w any→Calls Tryz.prog 21 #[v] w (fun e w'=>∃ f:Ft,e=.returned (ftV f)∧Sat w w' emp∧(f.err=0↔(confF c).err=0)))
  (hB0:∀ w G,Sat w0 w (F*G)→Calls Tryz.prog 22 #[u] w (RetV w0 (.int .i64 (chkI l)) (F*G))) :
  Calls Tryz.prog 9 #[v,u] w (RetV w0 (.int .i64 (stCh c l)) F):=by
 obtain ⟨ua,uc,rfl⟩:∃ ua uc,u=.slice ua l.length uc:=by
  obtain ⟨a,cap,b,off,e,_⟩:=hst w hs;exact ⟨a,cap,e⟩
 have hA:=hid hA0;have hB:=hid hB0;have hC:=hid (show stCh c l=(if l.any (strayE c.ts.length)=true then 1 else 0) by unfold stCh;rw [if_pos he];simp [h0]);have hn64:=(confF_ok rg he).1;have Hst:=hid hst;have Hev:=hid hev;obtain ⟨ta,la,sa,qa,ma,tc,lc,sc,qc,mc,rfl,h1,h2,h3,h4,h5⟩:=hr.form;clear hr h1 h2 h3 h4 h5 hst hev hA0 hB0
 go_enter Tryz.func9,Tryz.ntmps9
 go_wp2_with fail;refine (hA.out _ own_left).mono ?_;rintro en w1 ⟨f,rfl,hs1,hf⟩;have hs2:=Sat.past (w0:=w0) own_it hs1;have e1:(f.err != 0)=false:=by simp [hf,he]
 clear hs1 hs hA hf he;unfold ftV;go_wp2_with fail;have hs4:Sat w0 w1 (F*(pts w.heap.size 0 [.slice ta c.ts.length tc,.slice la c.ls.length lc,.int .i64 c.mutexes,.slice sa c.sems.length sc,.slice qa c.queues.length qc,.slice ma c.timers.length mc,.int .i64 c.table,.int .u32 c.mask,.int .u32 c.filter,.int .i64 c.charge,.int .u64 c.cycle,.int .u64 c.count]*any)):=own_left;refine (hB.out _ _ hs4).mono ?_;rintro en w2 ⟨rfl,hs3⟩;clear hs2 hs4 hB;go_wp2_with fail;refine wp_gen (w0:=w0) ?_;intro wx hsx;generalize w.heap.size=cb at *;clear hs3
 go_loopw [5] (fun i wr=>∃ k:Nat,k≤l.length∧i=.int .i64 k∧(l.take k).any (strayE c.ts.length)=false∧Sat w0 wr (pts cb 0 [.slice ta c.ts.length tc,.slice la c.ls.length lc,.int .i64 c.mutexes,.slice sa c.sems.length sc,.slice qa c.queues.length qc,.slice ma c.timers.length mc,.int .i64 c.table,.int .u32 c.mask,.int .u32 c.filter,.int .i64 c.charge,.int .u64 c.cycle,.int .u64 c.count]*(F*any))) (fun i _=>l.length-(intOf i).toNat)
 case atStart=>exact ⟨0,Nat.zero_le _,rfl,rfl,own_left⟩
 case round =>
  obtain ⟨k,hk,rfl,hnone,hsr⟩:=hrel;clear hsx
  by_cases hlt:k<l.length
  ·have d1:decide (k<l.length)=true:=decide_eq_true hlt;have i1:(k:Int)<(l.length:Int):=by omega
   obtain ⟨eg,eo,rfl,hrow0⟩:=rdR_at (k:=k) (Hst.out wr own_left) hlt;have hE:=Hev.out _ (evg_mem hlt);have hRow:=hid (fun (w:World) (G:HP) (h:Sat w0 w (F*G))=>(show w.rangeAt eg (eo+k*6) (evCells (evg l k)) by
    obtain ⟨g2,o2,e,hrow⟩:=rdR_at (k:=k) (Hst.out w own_left) hlt;simp only [Option.some.injEq,Addr.mk.injEq] at e;obtain ⟨rfl,rfl,_⟩:=e;exact hrow))
   have hnx:=hid (show (l.take (k+1)).any (strayE c.ts.length)=strayE c.ts.length (evg l k) by rw [any_next _ hlt,hnone,Bool.false_or]);have hat:=hid (fun hp=>any_at (p:=strayE c.ts.length) hlt hp);have hLk:=hid (fun (w:World) (G:HP) (hs:Sat w0 w G)=>rTask (evg l k) hE.a hE.b w0 w G hs);have hsy:=hid (stray_tsk hn64 (evg l k));have hb0:=hE.b;generalize evg l k=e at hRow hnx hLk hat hsy hb0;clear hrow0 hE hnone;obtain ⟨ek,cy,co,a,b,vv⟩:=e;dsimp only at hb0;have ub:IntKind.i64.wrap (b:Int)=b:=by rw [IntKind.wrap_i64];omega
   obtain ⟨T,hT⟩:∃ T,T=tskE ⟨ek,cy,co,a,b,vv⟩:=⟨_,rfl⟩;rw [← hT] at hLk hsy;clear hT
   by_cases hz1:(c.ts.length:Int)≤T
   ·have hst1:=hid (show strayE c.ts.length ⟨ek,cy,co,a,b,vv⟩=true by rw [hsy.out,decide_eq_true hz1];rfl);have hq:=hid (show stCh c l=1 by rw [hC.out,if_pos (hat.out hst1.out)]);have d2:decide ((c.ts.length:Int)≤T)=true:=decide_eq_true hz1;go_wp2_with fail;refine wp_gen (w0:=w0) ?_;intro wz hsz;refine wp_region_early (fun w'=>Sat w0 w' (pts cb 0 [.slice ta c.ts.length tc,.slice la c.ls.length lc,.int .i64 c.mutexes,.slice sa c.sems.length sc,.slice qa c.queues.length qc,.slice ma c.timers.length mc,.int .i64 c.table,.int .u32 c.mask,.int .u32 c.filter,.int .i64 c.charge,.int .u64 c.cycle,.int .u64 c.count]*(F*any))) [(0,true),(1,true),(2,true),(3,true),(5,true),(6,true),(7,true),(4,false),(8,true),(9,true),(10,true),(11,true),(12,true),(13,true),(14,true),(15,true),(16,true),(17,true),(18,true),(19,true),(20,true),(21,true),(22,true),(23,true),(24,true),(25,true),(26,true),(27,true),(28,true),(29,true),(30,true),(31,true),(32,true),(33,true),(34,true),(35,true),(36,true)] (by kernel_rfl) (by kernel_rfl) (fun _ _ _ _ h=>h) own_any2 ?_
    iterate 3 (first | refine early_S ?_ | refine early_N ?_)
    refine early_load_row (cells:=[.int .i64 ek,.int .u64 cy,.int .u64 co,.int .u32 a,.int .u32 b,.int .u32 vv]) rfl rfl rfl rfl (fun w h=>hRow.out w _ h.drop) Tryz.underlying45 rfl (by kernel_rfl) ?_;simp only [Act.put,zqA,zqP,zqQ]
    iterate 3 (first | refine early_S ?_ | refine early_N ?_)
    refine early_G rfl (by rfl) (fun K hK=>?_);go_wp2_with fail;refine (hLk.out _ _ own_it).mono ?_;rintro en w4 ⟨rfl,hs4⟩;go_wp2_with fail;refine ⟨own_any2,?_⟩
    iterate 29 (first | refine early_S ?_ | refine early_N ?_)
    refine early_done ?_;clear hsr hsz;go_wp2_with fail;go_ret;exact ⟨by rw [hq.out];rfl,own_left⟩
   ·have d2:decide ((c.ts.length:Int)≤T)=false:=decide_eq_false hz1
    by_cases h5:ek=5
    ·have e5:(ek==5)=true:=by simp [h5]
     have e5d:=hid (decide_eq_true h5);clear h5
     by_cases h6:b<64
     ·have d6:decide (b<64)=true:=decide_eq_true h6;have i6:(b:Int)<64:=by omega
      by_cases h7:c.ts.length≤b
      ·have d7:decide (c.ts.length≤b)=true:=decide_eq_true h7;have i7:(c.ts.length:Int)≤(b:Int):=by omega
       have hst1:=hid (show strayE c.ts.length ⟨ek,cy,co,a,b,vv⟩=true by rw [hsy.out,d2,e5d.out];unfold outT;rw [d6,d7];rfl);have hq:=hid (show stCh c l=1 by rw [hC.out,if_pos (hat.out hst1.out)]);go_wp2_with fail;refine wp_gen (w0:=w0) ?_;intro wz hsz;refine wp_region_early (fun w'=>Sat w0 w' (pts cb 0 [.slice ta c.ts.length tc,.slice la c.ls.length lc,.int .i64 c.mutexes,.slice sa c.sems.length sc,.slice qa c.queues.length qc,.slice ma c.timers.length mc,.int .i64 c.table,.int .u32 c.mask,.int .u32 c.filter,.int .i64 c.charge,.int .u64 c.cycle,.int .u64 c.count]*(F*any))) [(0,true),(1,true),(2,true),(3,true),(5,true),(6,true),(7,true),(4,false),(8,true),(9,true),(10,true),(11,true),(12,true),(13,true),(14,true),(15,true),(16,true),(17,true),(18,true),(19,true),(20,true),(21,true),(22,true),(23,true),(24,true),(25,true),(26,true),(27,true),(28,true),(29,true),(30,true),(31,true),(32,true),(33,true),(34,true),(35,true),(36,true)] (by kernel_rfl) (by kernel_rfl) (fun _ _ _ _ h=>h) own_any2 ?_
       iterate 3 (first | refine early_S ?_ | refine early_N ?_)
       refine early_load_row (cells:=[.int .i64 ek,.int .u64 cy,.int .u64 co,.int .u32 a,.int .u32 b,.int .u32 vv]) rfl rfl rfl rfl (fun w h=>hRow.out w _ h.drop) Tryz.underlying45 rfl (by kernel_rfl) ?_;simp only [Act.put,zqA,zqP,zqQ]
       iterate 3 (first | refine early_S ?_ | refine early_N ?_)
       refine early_G rfl (by rfl) (fun K hK=>?_);go_wp2_with fail;refine (hLk.out _ _ own_it).mono ?_;rintro en w4 ⟨rfl,hs4⟩;go_wp2_with fail;refine ⟨own_any2,?_⟩
       iterate 6 (first | refine early_S ?_ | refine early_N ?_)
       refine early_T rfl (by rfl) ⟨.int .i64 ek,fun w hSw=>?_,?_⟩
       ·have h0:=hRow.out w _ hSw.drop 0 _ rfl
        try rw [Nat.add_zero] at h0
        go_simp
        try with_reducible rfl
       simp only [Act.put,zqA,zqP,zqQ]
       iterate 6 (first | refine early_S ?_ | refine early_N ?_)
       refine early_T rfl (by rfl) ⟨.int .u32 b,fun w hSw=>?_,?_⟩
       ·have h0:=hRow.out w _ hSw.drop 4 _ rfl
        try rw [Nat.add_zero] at h0
        go_simp
        try with_reducible rfl
       simp only [Act.put,zqA,zqP,zqQ]
       iterate 7 (first | refine early_S ?_ | refine early_N ?_)
       refine early_T rfl (by rfl) ⟨.int .u32 b,fun w hSw=>?_,?_⟩
       ·have h0:=hRow.out w _ hSw.drop 4 _ rfl
        try rw [Nat.add_zero] at h0
        go_simp
        try with_reducible rfl
       simp only [Act.put,zqA,zqP,zqQ]
       iterate 7 (first | refine early_S ?_ | refine early_N ?_)
       refine early_done ?_;clear hsr hsz;go_wp2_with fail;go_ret;exact ⟨by rw [hq.out];rfl,own_left⟩
      ·have d7:decide (c.ts.length≤b)=false:=decide_eq_false h7;have i7:¬ (c.ts.length:Int)≤(b:Int):=by omega
       have hst1:=hid (show strayE c.ts.length ⟨ek,cy,co,a,b,vv⟩=false by rw [hsy.out,d2,e5d.out];unfold outT;rw [d6,d7];rfl);go_wp2_with fail;refine wp_gen (w0:=w0) ?_;intro wz hsz;refine wp_region_early (fun w'=>Sat w0 w' (pts cb 0 [.slice ta c.ts.length tc,.slice la c.ls.length lc,.int .i64 c.mutexes,.slice sa c.sems.length sc,.slice qa c.queues.length qc,.slice ma c.timers.length mc,.int .i64 c.table,.int .u32 c.mask,.int .u32 c.filter,.int .i64 c.charge,.int .u64 c.cycle,.int .u64 c.count]*(F*any))) [(0,true),(1,true),(2,true),(3,true),(5,true),(6,true),(7,true),(4,false),(8,true),(9,true),(10,true),(11,true),(12,true),(13,true),(14,true),(15,true),(16,true),(17,true),(18,true),(19,true),(20,true),(21,true),(22,true),(23,true),(24,true),(25,true),(26,true),(27,true),(28,true),(29,true),(30,true),(31,true),(32,true),(33,true),(34,true),(35,true),(36,true)] (by kernel_rfl) (by kernel_rfl) (fun _ _ _ _ h=>h) own_any2 ?_
       iterate 3 (first | refine early_S ?_ | refine early_N ?_)
       refine early_load_row (cells:=[.int .i64 ek,.int .u64 cy,.int .u64 co,.int .u32 a,.int .u32 b,.int .u32 vv]) rfl rfl rfl rfl (fun w h=>hRow.out w _ h.drop) Tryz.underlying45 rfl (by kernel_rfl) ?_;simp only [Act.put,zqA,zqP,zqQ]
       iterate 3 (first | refine early_S ?_ | refine early_N ?_)
       refine early_G rfl (by rfl) (fun K hK=>?_);go_wp2_with fail;refine (hLk.out _ _ own_it).mono ?_;rintro en w4 ⟨rfl,hs4⟩;go_wp2_with fail;refine ⟨own_any2,?_⟩
       iterate 6 (first | refine early_S ?_ | refine early_N ?_)
       refine early_T rfl (by rfl) ⟨.int .i64 ek,fun w hSw=>?_,?_⟩
       ·have h0:=hRow.out w _ hSw.drop 0 _ rfl
        try rw [Nat.add_zero] at h0
        go_simp
        try with_reducible rfl
       simp only [Act.put,zqA,zqP,zqQ]
       iterate 6 (first | refine early_S ?_ | refine early_N ?_)
       refine early_T rfl (by rfl) ⟨.int .u32 b,fun w hSw=>?_,?_⟩
       ·have h0:=hRow.out w _ hSw.drop 4 _ rfl
        try rw [Nat.add_zero] at h0
        go_simp
        try with_reducible rfl
       simp only [Act.put,zqA,zqP,zqQ]
       iterate 7 (first | refine early_S ?_ | refine early_N ?_)
       refine early_T rfl (by rfl) ⟨.int .u32 b,fun w hSw=>?_,?_⟩
       ·have h0:=hRow.out w _ hSw.drop 4 _ rfl
        try rw [Nat.add_zero] at h0
        go_simp
        try with_reducible rfl
       simp only [Act.put,zqA,zqP,zqQ]
       iterate 7 (first | refine early_S ?_ | refine early_N ?_)
       refine early_done ?_;clear hsr hsz;go_wp2_with fail;go_roundw
       case rel=>exact ⟨k+1,by omega,by go_num,by rw [hnx.out,hst1.out],own_left⟩
       case measure=>simp [intOf];omega
     ·have d6:decide (b<64)=false:=decide_eq_false h6;have c6:(b<64)=False:=eq_false h6;have i6:((b:Int)<64)=False:=eq_false (by omega);have hst1:=hid (show strayE c.ts.length ⟨ek,cy,co,a,b,vv⟩=false by rw [hsy.out,d2,e5d.out];unfold outT;rw [d6];rfl);clear h6;go_wp2_with fail;refine wp_gen (w0:=w0) ?_;intro wz hsz;refine wp_region_early (fun w'=>Sat w0 w' (pts cb 0 [.slice ta c.ts.length tc,.slice la c.ls.length lc,.int .i64 c.mutexes,.slice sa c.sems.length sc,.slice qa c.queues.length qc,.slice ma c.timers.length mc,.int .i64 c.table,.int .u32 c.mask,.int .u32 c.filter,.int .i64 c.charge,.int .u64 c.cycle,.int .u64 c.count]*(F*any))) [(0,true),(1,true),(2,true),(3,true),(5,true),(6,true),(7,true),(4,false),(8,true),(9,true),(10,true),(11,true),(12,true),(13,true),(14,true),(15,true),(16,true),(17,true),(18,true),(19,true),(20,true),(21,true),(22,true),(23,true),(24,true),(25,true),(26,true),(27,true),(28,true),(29,true),(30,true),(31,true),(32,true),(33,true),(34,true),(35,true),(36,true)] (by kernel_rfl) (by kernel_rfl) (fun _ _ _ _ h=>h) own_any2 ?_
      iterate 3 (first | refine early_S ?_ | refine early_N ?_)
      refine early_load_row (cells:=[.int .i64 ek,.int .u64 cy,.int .u64 co,.int .u32 a,.int .u32 b,.int .u32 vv]) rfl rfl rfl rfl (fun w h=>hRow.out w _ h.drop) Tryz.underlying45 rfl (by kernel_rfl) ?_;simp only [Act.put,zqA,zqP,zqQ]
      iterate 3 (first | refine early_S ?_ | refine early_N ?_)
      refine early_G rfl (by rfl) (fun K hK=>?_);go_wp2_with fail;refine (hLk.out _ _ own_it).mono ?_;rintro en w4 ⟨rfl,hs4⟩;go_wp2_with fail;refine ⟨own_any2,?_⟩
      iterate 6 (first | refine early_S ?_ | refine early_N ?_)
      refine early_T rfl (by rfl) ⟨.int .i64 ek,fun w hSw=>?_,?_⟩
      ·have h0:=hRow.out w _ hSw.drop 0 _ rfl
       try rw [Nat.add_zero] at h0
       go_simp
       try with_reducible rfl
      simp only [Act.put,zqA,zqP,zqQ]
      iterate 6 (first | refine early_S ?_ | refine early_N ?_)
      refine early_T rfl (by rfl) ⟨.int .u32 b,fun w hSw=>?_,?_⟩
      ·have h0:=hRow.out w _ hSw.drop 4 _ rfl
       try rw [Nat.add_zero] at h0
       go_simp
       try with_reducible rfl
      simp only [Act.put,zqA,zqP,zqQ]
      iterate 15 (first | refine early_S ?_ | refine early_N ?_)
      refine early_done ?_;clear hsr hsz;go_wp2_with fail;go_roundw
      case rel=>exact ⟨k+1,by omega,by go_num,by rw [hnx.out,hst1.out],own_left⟩
      case measure=>simp [intOf];omega
    ·have e5:(ek==5)=false:=by simp [h5]
     have hst1:=hid (show strayE c.ts.length ⟨ek,cy,co,a,b,vv⟩=false by rw [hsy.out,d2,decide_eq_false h5];rfl);go_wp2_with fail;refine wp_gen (w0:=w0) ?_;intro wz hsz;refine wp_region_early (fun w'=>Sat w0 w' (pts cb 0 [.slice ta c.ts.length tc,.slice la c.ls.length lc,.int .i64 c.mutexes,.slice sa c.sems.length sc,.slice qa c.queues.length qc,.slice ma c.timers.length mc,.int .i64 c.table,.int .u32 c.mask,.int .u32 c.filter,.int .i64 c.charge,.int .u64 c.cycle,.int .u64 c.count]*(F*any))) [(0,true),(1,true),(2,true),(3,true),(5,true),(6,true),(7,true),(4,false),(8,true),(9,true),(10,true),(11,true),(12,true),(13,true),(14,true),(15,true),(16,true),(17,true),(18,true),(19,true),(20,true),(21,true),(22,true),(23,true),(24,true),(25,true),(26,true),(27,true),(28,true),(29,true),(30,true),(31,true),(32,true),(33,true),(34,true),(35,true),(36,true)] (by kernel_rfl) (by kernel_rfl) (fun _ _ _ _ h=>h) own_any2 ?_
     iterate 3 (first | refine early_S ?_ | refine early_N ?_)
     refine early_load_row (cells:=[.int .i64 ek,.int .u64 cy,.int .u64 co,.int .u32 a,.int .u32 b,.int .u32 vv]) rfl rfl rfl rfl (fun w h=>hRow.out w _ h.drop) Tryz.underlying45 rfl (by kernel_rfl) ?_;simp only [Act.put,zqA,zqP,zqQ]
     iterate 3 (first | refine early_S ?_ | refine early_N ?_)
     refine early_G rfl (by rfl) (fun K hK=>?_);go_wp2_with fail;refine (hLk.out _ _ own_it).mono ?_;rintro en w4 ⟨rfl,hs4⟩;go_wp2_with fail;refine ⟨own_any2,?_⟩
     iterate 6 (first | refine early_S ?_ | refine early_N ?_)
     refine early_T rfl (by rfl) ⟨.int .i64 ek,fun w hSw=>?_,?_⟩
     ·have h0:=hRow.out w _ hSw.drop 0 _ rfl
      try rw [Nat.add_zero] at h0
      go_simp
      try with_reducible rfl
     simp only [Act.put,zqA,zqP,zqQ]
     iterate 22 (first | refine early_S ?_ | refine early_N ?_)
     refine early_done ?_;clear hsr hsz;go_wp2_with fail;go_roundw
     case rel=>exact ⟨k+1,by omega,by go_num,by rw [hnx.out,hst1.out],own_left⟩
     case measure=>simp [intOf];omega
  ·have d1:decide (k<l.length)=false:=decide_eq_false hlt;obtain rfl:k=l.length:=by omega
   rw [List.take_length] at hnone;have hq:=hid (show stCh c l=0 by rw [hC.out,hnone];rfl);clear hnone hC;go_wp2_with fail;go_ret;exact ⟨by rw [hq.out];rfl,own_left⟩
end Go.Proofs.YtkeommmigopnkaaGreatDoor
namespace Go.Proofs.YtkeommmigopnkaaGreatDoor
open Go.RowKit Go.Sx Go.Au
theorem rfCheckL (v:Value) (l:List Ev) (hl:l.length<1000000) (hev:∀ e∈l,EvOk e) (w0 w:World) (F:HP) (hs:Sat w0 w F) (hst:StaysE w0 F v l) :
  Calls Tryz.prog 22 #[v] w (RetV w0 (.int .i64 (chkI l)) F):=by
 have hst':=hid hst;obtain ⟨a,cap,b,off,rfl,hcap,hbig,ha,hc⟩:=hst w hs;have Ha:=hid ha;have Hev:=hid hev;clear hc ha hst hev;unfold maxLen at hbig
 go_enter Tryz.func22,Tryz.ntmps22
 go_wp2_with fail;refine (rfNew w0 _ F hs).mono ?_;rintro en wx ⟨pb,rfl,hsx⟩;clear hs;go_wp2_with fail
 go_loopw [4] (fun i wr=>∃ (k:Nat) (A:Au),k≤l.length∧i=.int .i64 k∧AOk A∧A.seen=k∧Run l k A∧Sat w0 wr (rfP pb A*(F*any))) (fun i _=>l.length-(intOf i).toNat)
 case atStart=>exact ⟨0,au0,by omega,rfl,aok0,rfl,run0 l,own_left⟩
 case round =>
  obtain ⟨k,A,hk,rfl,hA,hse,hrun,hs2⟩:=hrel;have Hrun:=hid hrun;have Hse:=hid hse;clear hrun hse hsx
  by_cases hlt:k<l.length
  ·have hin:l[k]∈l:=List.getElem_mem hlt;have hek:=Hev.out _ hin;obtain ⟨g,off2,rfl,q0,q1,q2,q3,q4,q5⟩:=ev_at (hst'.out wr own_left) hlt;clear hin;generalize hle:l[k]=e at *;have Hle:=hid hle;clear hle;obtain ⟨ek,ecy,eco,ea,eb,ev⟩:=e;dsimp only at q0 q1 q2 q3 q4 q5;have hI:(k:Int)<(l.length:Int):=by omega
   go_wp2_with fail;refine (rfNext pb A ⟨ek,ecy,eco,ea,eb,ev⟩ w0 _ (F*any) own_left hA hek ⟨by have:=Hse.out;omega,by have:=Hse.out;omega⟩).mono ?_;rintro en w2 ⟨rfl,hy,hn⟩;clear hs2;generalize hr:keepsR A ⟨ek,ecy,eco,ea,eb,ev⟩=r at hy hn ⊢;have Hr:=hid hr;clear hr
   cases r
   ·have hs3:=hn rfl;clear hn hy;go_wp2_with fail;go_ret;refine ⟨?_,own_left⟩;have:=run_break hlt Hrun.out Hle.out Hr.out;unfold chkI;rw [this]
    rfl
   ·have hs3:=hy rfl;clear hn hy;go_wp2_with fail;go_roundw
    case rel=>exact ⟨k+1,stepA A ⟨ek,ecy,eco,ea,eb,ev⟩,by omega,by go_num,aok_step hA hek Hr.out,by rw [step_seen,Hse.out];omega,run_next hlt Hrun.out Hle.out Hr.out,own_left⟩
    case measure=>simp [intOf];omega
  ·have hke:k=l.length:=by omega
   subst hke;go_wp2_with fail;go_ret;refine ⟨?_,own_left⟩;unfold chkI;rw [run_end Hrun.out]
   rfl
end Go.Proofs.YtkeommmigopnkaaGreatDoor
namespace Go.Proofs.YtkeommmigopnkaaGreatDoor
open Go.RowKit Go.Sx Go.Dl Go.Lk Go.Rq Go.Au Go.Hi Go.St
theorem rCheck (v u:Value) (c:Cf) (rg:CfRng c) (l:List Ev) (hl:l.length<900000) (hev:∀ e∈l,EvOk e) (w0 w:World) (F:HP) (hr:RdCf w0 v c) (hst:StaysE w0 F u l) (hs:Sat w0 w F) :
  Calls Tryz.prog 9 #[v,u] w (RetV w0 (.int .i64 (stCh c l)) F):=by
 have hA:∀ w,Sat w0 w any→Calls Tryz.prog 21 #[v] w (fun e w'=>∃ f:Ft,e=.returned (ftV f)∧Sat w w' emp∧(f.err=0↔(confF c).err=0)):=fun w h =>
  (refConf v c rg w (hr.later h)).mono fun e w' ⟨f,h1,h2,h3⟩=>⟨f,h1,h2,h3.trans (fine_iff c).symm⟩
 have hB:∀ w G,Sat w0 w (F*G)→Calls Tryz.prog 22 #[u] w (RetV w0 (.int .i64 (chkI l)) (F*G)):=fun w G h =>
  rfCheckL u l (by omega) hev w0 w (F*G) h (fun w hh=>hst w (show Sat w0 w F from own_left))
 by_cases he:(confF c).err=0
 ·by_cases h0:0≤chkI l
  ·exact rCheck1 v u c rg l hl hev he h0 w0 w F hr hst hs hA hB
  ·exact rCheck0 v u c rg l hl hev he h0 w0 w F hr hst hs hA hB
 ·exact rCheck3 v u c rg l hl hev he w0 w F hr hst hs hA hB
theorem elemRn:ElemT Tryz.prog 38 26 1 8 (.int .u64 0):=⟨by kernel_rfl,by kernel_rfl,rfl⟩
instance elRn:Elem Tryz.prog 38 .u64 26 8 (.int .u64 0):=⟨elemRn,by decide⟩
theorem grp_end {l:List Ev} {k:Nat}:∀ (m e:Nat),e+m=l.length→k<e→(∀ i,k≤i→i<e→(evg l i).co=(evg l k).co)→∃ e',k<e'∧e'≤l.length∧(∀ i,k≤i→i<e'→(evg l i).co=(evg l k).co)∧(e'=l.length∨(evg l e').co≠(evg l k).co)
 | 0,e,he,hk,hs=>⟨e,hk,by omega,hs,.inl (by omega)⟩
 | m+1,e,he,hk,hs=>by
  by_cases h:(evg l e).co=(evg l k).co
  ·refine grp_end m (e+1) (by omega) (by omega) fun i h1 h2=>?_
   by_cases h3:i=e
   ·rw [h3];exact h
   ·exact hs i h1 (by omega)
  ·exact ⟨e,hk,by omega,hs,.inr h⟩
theorem steps_end (B:Bk) (co:Option Int):B.steps co []=B:=by rw [Bk.steps.eq_def]
theorem book_all {n:Nat} {ts:List Sk} {l:List Ev} (hf:∀ e∈l,EvFit n e):∀ (m k:Nat) (A:Au) (B:Bk),l.length-k≤m→k≤l.length→Tie n A B∧chk A (l.drop k)=none∧Num k B∧(bk0 ts).steps none l=B.steps (pv l k) (l.drop k)→∃ A',Tie n A' ((bk0 ts).steps none l)∧Num l.length ((bk0 ts).steps none l)
 | m,k,A,B,hm,hk,h=>by
  by_cases hlt:k<l.length
  ·obtain ⟨e,h1,h2,h3,h4⟩:=grp_end (l:=l) (k:=k) (l.length-(k+1)) (k+1) (by omega) (by omega) (fun i h1 h2=>by rw [show i=k by omega]);obtain ⟨_,_,_,A',h5,h6,h7,h8⟩:=book_next h hf h1 h2 h3 h4
   match m,hm with
   | 0,hm=>omega
   | m+1,hm=>exact book_all hf m e A' _ (by omega) h2 ⟨h5,h6,h7,h8⟩
  ·obtain rfl:k=l.length:=by omega
   obtain ⟨h1,h2,h3,h4⟩:=h;rw [List.drop_length,steps_end] at h4;rw [h4];exact ⟨A,h1,h3⟩
theorem tie_0 (c:Cf) (hn:c.ts.length≤64):Tie c.ts.length au0 (bk0 (tks0 c)):=tie0 (by rw [tks0,List.length_map]) hn (fun s hs=>by
 obtain ⟨q,_,rfl⟩:=List.mem_map.1 hs
 rfl)
theorem num_0 (c:Cf) (hdl:∀ t∈c.ts,0≤t.dl∧t.dl≤1000000000000):Num 0 (bk0 (tks0 c)):=Num.mk' (fun s hs=>by
 obtain ⟨q,hq,rfl⟩:=List.mem_map.1 hs;exact ⟨⟨Int.le_refl 0,Int.le_refl 0⟩,⟨Int.le_refl 0,Int.le_refl 0⟩,⟨Int.le_refl 0,Int.le_refl 0⟩,hdl q hq⟩) (by simp [bk0])
structure GoodE (c:Cf) (l:List Ev):Prop where
 nt:c.ts.length≤64
 dl:∀ t∈c.ts,0≤t.dl∧t.dl≤1000000000000
 ck:chk au0 l=none
 ft:∀ e∈l,EvFit c.ts.length e
theorem good_of {c:Cf} (rg:CfRng c) {l:List Ev} (hev:∀ e∈l,EvOk e) (h:stCh c l=0):GoodE c l:=by
 unfold stCh at h
 by_cases he:(confF c).err=0
 ·rw [if_pos he] at h;have ok:=confF_ok rg he
  by_cases h1:0≤chkI l∨l.any (strayE c.ts.length)=true
  ·rw [if_pos h1] at h;cases h
  ·refine ⟨ok.nt,fun t ht=>?_,?_,fun e he2=>⟨hev e he2,?_⟩⟩
   ·obtain ⟨k,hk,rfl⟩:=List.getElem_of_mem ht;have:=(ok.t k hk).2.2.2.1;have e:tcg c k=c.ts[k]:=by unfold tcg;rw [List.getD_eq_getElem?_getD,List.getElem?_eq_getElem hk];rfl
    rw [e] at this;omega
   ·have h2:¬ 0≤chkI l:=fun h=>h1 (.inl h);unfold chkI at h2
    cases hc:chk au0 l with
    | none=>rfl
    | some k=>rw [hc] at h2;exact absurd (by dsimp only;omega) h2
   ·cases hs:strayE c.ts.length e with
    | false=>rfl
    | true=>exact absurd (.inr (List.any_eq_true.2 ⟨e,he2,hs⟩)) h1
 ·rw [if_neg he] at h;cases h
theorem GoodE.book {c:Cf} {l:List Ev} (h:GoodE c l):∃ A',Tie c.ts.length A' ((bk0 (tks0 c)).steps none l)∧Num l.length ((bk0 (tks0 c)).steps none l) :=
 book_all h.ft l.length 0 au0 (bk0 (tks0 c)) (by omega) (Nat.zero_le _) ⟨tie_0 c h.nt,h.ck,num_0 c h.dl,rfl⟩
theorem GoodE.len {c:Cf} {l:List Ev} (h:GoodE c l):(Bk.read (tks0 c) l).ts.length=c.ts.length:=by
 obtain ⟨A',h1,_⟩:=h.book;exact h1.bk.len
def JobsR (w0:World) (F:HP) (c:Cf) (l:List Ev) (e:Ending) (w':World):Prop :=
 (stCh c l≠0∧e=.returned (.tuple #[.slice none 0 0,.int .i64 (stCh c l)])∧Sat w0 w' F) ∨
 (stCh c l=0∧∃ (a:Option Addr) (k:Nat),e=.returned (.tuple #[.slice a (Bk.read (tks0 c) l).jb.length k,.int .i64 0])∧Sat w0 w' (recsP (.slice a (Bk.read (tks0 c) l).jb.length k) (Bk.read (tks0 c) l).jb*F))
theorem stJobs (v u:Value) (c:Cf) (rg:CfRng c) (l:List Ev) (hl:l.length<900000) (hev:∀ e∈l,EvOk e) (w0 w:World) (F:HP) (hr:RdCf w0 v c) (hst:StaysE w0 F u l) (hs:Sat w0 w F) :
  Calls Tryz.prog 8 #[v,u] w (JobsR w0 F c l):=by
 have hC:=hid (fun (w:World) (G:HP) (h:Sat w0 w (F*G))=>stCheck v u c rg l hl hev w0 w (F*G) hr (fun w hh=>hst w (show Sat w0 w F from own_left)) h);have hR:=hid (fun (g:GoodE c l) (w:World) (G:HP) (h:Sat w0 w (F*G))=>stRead v u c l g.nt g.dl hl g.ck g.ft w0 w (F*G) hr (fun w hh=>hst w (show Sat w0 w F from own_left)) h);have hG:=hid (good_of rg hev (c:=c) (l:=l));obtain ⟨ua,uc,rfl⟩:∃ ua uc,u=.slice ua l.length uc:=by
  obtain ⟨a,cap,b,off,e,_⟩:=hst w hs;exact ⟨a,cap,e⟩
 obtain ⟨ta,la,sa,qa,ma,tc,lc,sc,qc,mc,rfl,h1,h2,h3,h4,h5⟩:=hr.form;clear hr h1 h2 h3 h4 h5 hst hev rg
 go_enter Tryz.func8,Tryz.ntmps8
 go_wp2_with fail;refine (hC.out _ (pts w.heap.size 0 [.slice ta c.ts.length tc,.slice la c.ls.length lc,.int .i64 c.mutexes,.slice sa c.sems.length sc,.slice qa c.queues.length qc,.slice ma c.timers.length mc,.int .i64 c.table,.int .u32 c.mask,.int .u32 c.filter,.int .i64 c.charge,.int .u64 c.cycle,.int .u64 c.count]*any) own_left).mono ?_;rintro en w2 ⟨rfl,hs3⟩;generalize w.heap.size=cb at *;clear hC
 by_cases h0:stCh c l=0
 ·have HG:=hid (hG.out h0);have e1:(stCh c l != 0)=false:=by simp [h0]
  have H0:=hid h0;have hq:=hid HG.out.len;clear hG;clear h0;go_wp2_with fail;refine (hR.out HG.out _ _ hs3).mono ?_;rintro en w3 ⟨g,rfl,hs5⟩;clear hs3 hR;obtain ⟨B,hB⟩:∃ B,B=Bk.read (tks0 c) l:=⟨_,rfl⟩;rw [← hB] at hs5 hq;have HB:=hid hB;have hn64:B.ts.length≤64:=by have:=hq.out;have:=HG.out.nt;omega
  clear hB HG hq;obtain ⟨mb,ba,bc,ja,jc,hs6⟩:=bk_out hs5;clear hs5;go_wp2_with fail;go_ret2;obtain rfl:=HB.out;exact .inr ⟨H0.out,ja,jc,rfl,own_left⟩
 ·have e1:(stCh c l != 0)=true:=by simp [h0]
  have H0:=hid h0;clear hG hR h0;go_wp2_with fail;go_ret2;exact .inl ⟨H0.out,rfl,own_left⟩
end Go.Proofs.YtkeommmigopnkaaGreatDoor
