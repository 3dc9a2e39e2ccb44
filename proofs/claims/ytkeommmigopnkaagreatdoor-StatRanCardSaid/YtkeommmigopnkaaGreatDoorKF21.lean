/-
  Parts of the proof: StWb.
-/
import Derived.Test.YtkeommmigopnkaaGreatDoorKF20
set_option linter.unusedVariables false
set_option linter.unusedSimpArgs false
set_option maxHeartbeats 32000000
set_option maxRecDepth 100000
namespace Go.Proofs.YtkeommmigopnkaaGreatDoor
open Go.RowKit Go.Sx Go.Dl Go.Lk Go.Rq Go.Au Go.Hi Go.St
instance:ElemR Tryz.prog 39 Sec 3 encSec 94 24 (.agg #[.int .i64 0,.int .u64 0,.bool false]):=⟨⟨by kernel_rfl,by kernel_rfl,rfl⟩,by decide⟩
def rbV (g:Nat) (ja:Option Addr) (jc:Nat) (ra:Option Addr) (rc:Nat) (ka:Option Addr) (kc:Nat) (ea:Option Addr) (ec:Nat) (R:Rb):HP :=
 pts g 0 [.slice ja R.jb.length jc,.slice ra R.ran.length rc,.slice ka R.tak.length kc,.slice ea R.sc.length ec]*(recsP (.slice ja R.jb.length jc) R.jb*(numsP .u64 (.slice ra R.ran.length rc) R.ran*(numsP .i64 (.slice ka R.tak.length kc) R.tak*recsP (.slice ea R.sc.length ec) R.sc)))
def rbP (g:Nat) (R:Rb):HP:=ex fun ja=>ex fun jc=>ex fun ra=>ex fun rc=>ex fun ka=>ex fun kc=>ex fun ea=>ex fun ec=>rbV g ja jc ra rc ka kc ea ec R
theorem rb_out {w0 w:World} {F:HP} {g:Nat} {R:Rb} (hs:Sat w0 w (rbP g R*F)):∃ (ja:Option Addr) (jc:Nat) (ra:Option Addr) (rc:Nat) (ka:Option Addr) (kc:Nat) (ea:Option Addr) (ec:Nat),Sat w0 w (pts g 0 [.slice ja R.jb.length jc,.slice ra R.ran.length rc,.slice ka R.tak.length kc,.slice ea R.sc.length ec]*(recsP (.slice ja R.jb.length jc) R.jb*(numsP .u64 (.slice ra R.ran.length rc) R.ran*(numsP .i64 (.slice ka R.tak.length kc) R.tak*(recsP (.slice ea R.sc.length ec) R.sc*F))))):=by
 obtain ⟨ja,h⟩:=hs.ex_out;obtain ⟨jc,h⟩:=h.ex_out;obtain ⟨ra,h⟩:=h.ex_out;obtain ⟨rc,h⟩:=h.ex_out;obtain ⟨ka,h⟩:=h.ex_out;obtain ⟨kc,h⟩:=h.ex_out;obtain ⟨ea,h⟩:=h.ex_out;obtain ⟨ec,h⟩:=h.ex_out;exact ⟨ja,jc,ra,rc,ka,kc,ea,ec,h.perm (by unfold rbV;ac_rfl)⟩
theorem rb_in {w0 w:World} {F:HP} {g:Nat} {ja:Option Addr} {jc:Nat} {ra:Option Addr} {rc:Nat} {ka:Option Addr} {kc:Nat} {ea:Option Addr} {ec:Nat} {R:Rb} (J:List Jb) (L K:List Int) (S:List Sec) (h1:R.jb=J) (h2:R.ran=L) (h3:R.tak=K) (h4:R.sc=S)
  (hs:Sat w0 w (pts g 0 [.slice ja J.length jc,.slice ra L.length rc,.slice ka K.length kc,.slice ea S.length ec]*(recsP (.slice ja J.length jc) J*(numsP .u64 (.slice ra L.length rc) L*(numsP .i64 (.slice ka K.length kc) K*(recsP (.slice ea S.length ec) S*F)))))):Sat w0 w (rbP g R*F):=by
 subst h1;subst h2;subst h3;subst h4;exact Sat.ex_in ja (Sat.ex_in jc (Sat.ex_in ra (Sat.ex_in rc (Sat.ex_in ka (Sat.ex_in kc (Sat.ex_in ea (Sat.ex_in ec (hs.perm (by unfold rbV;ac_rfl)))))))))
theorem kd_len (R:Rb) (A A1:Au) (e:Ev):((R.tk A e).kind A1 e).jb.length≤R.jb.length+1:=by
 have h1:(R.tk A e).jb=R.jb:=by unfold Rb.tk;split<;>rfl
 have h2:∀ (Q:Rb),(Q.kind A1 e).jb.length≤Q.jb.length+1:=fun Q=>by
  unfold Rb.kind
  repeat' split
  all_goals simp
 rw [← h1];exact h2 _
instance (a:Int):Cells encSec [.int .i64 a,.int .u64 0,.bool true] [⟨a,0,true⟩]:=⟨rfl⟩
def unF (j:Jb):Jb:=if j.ended=true then j else { j with tidy:=false }
theorem unF_next {L:List Jb} {k:Nat} (f:Jb→Jb) (h:k<L.length):((L.take k).map f++L.drop k).set k (f (jg L k))=(L.take (k+1)).map f++L.drop (k+1):=by
 have e:L.drop k=L[k]::L.drop (k+1):=List.drop_eq_getElem_cons h;have e2:jg L k=L[k]:=by unfold jg;rw [List.getD_eq_getElem?_getD,List.getElem?_eq_getElem h];rfl
 rw [List.set_append_right _ _ (by simp;omega),List.length_map,List.length_take,Nat.min_eq_left (by omega),Nat.sub_self,e,List.set_cons_zero,e2,List.take_add_one,List.getElem?_eq_getElem h,List.map_append,List.append_assoc]
 rfl
theorem rEvo (g pb:Nat) (R:Rb) (A:Au) (n:Nat) (kk:Int) (cy co:Int) (a b v:Nat) (h3:kk≠5∧kk≠6∧kk≠8∧kk≠9∧kk≠12∧kk≠13) (hN:EvNow n A R ⟨kk,cy,co,a,b,v⟩) (hj:R.jb.length≤900) (hl:R.sc.length≤900) (he:EvOk ⟨kk,cy,co,a,b,v⟩) (hse:0≤A.seen∧A.seen<1000000000) (c:Cf) (ta la sa qa ma:Option Addr) (tc lc sc qc mc:Nat) (w0 w:World) (F:HP) (hs:Sat w0 w (rbP g R*(rfP pb A*F))) :
  Calls Tryz.prog 26 #[.pointer (some ⟨g,0,none⟩),.pointer (some ⟨pb,0,none⟩),.agg #[.slice ta c.ts.length tc,.slice la c.ls.length lc,.int .i64 c.mutexes,.slice sa c.sems.length sc,.slice qa c.queues.length qc,.slice ma c.timers.length mc,.int .i64 c.table,.int .u32 c.mask,.int .u32 c.filter,.int .i64 c.charge,.int .u64 c.cycle,.int .u64 c.count],.agg #[.int .i64 kk,.int .u64 cy,.int .u64 co,.int .u32 a,.int .u32 b,.int .u32 v]] w (RetV w0 (.tuple #[]) (rbP g (R.ev A ⟨kk,cy,co,a,b,v⟩)*(rfP pb (stepA A ⟨kk,cy,co,a,b,v⟩)*F))):=by
 have hea:=he.a;dsimp only at hea;have u1:IntKind.i64.wrap (a:Int)=a:=by rw [IntKind.wrap_i64];omega
 have hok1:=aok_step hN.ok he hN.ke;have Hke:=hid hN.ke;have hNx:=hid (fun (w:World) (G:HP) (h:Sat w0 w (rfP pb A*G))=>rfNext pb A ⟨kk,cy,co,a,b,v⟩ w0 w G h hN.ok he hse);obtain ⟨A1,hA1⟩:∃ A1,A1=stepA A ⟨kk,cy,co,a,b,v⟩:=⟨_,rfl⟩;rw [← hA1] at hok1;have hLo:=hid (fun (w:World) (G:HP) (h:Sat w0 w (rfP pb A1*G))=>rLoose pb A1 w0 w G h hok1);have e5:(kk==5)=false:=by rw [beq_eq_false_iff_ne];omega
 have e6:(kk==6)=false:=by rw [beq_eq_false_iff_ne];omega
 have e8:(kk==8)=false:=by rw [beq_eq_false_iff_ne];omega
 have e9:(kk==9)=false:=by rw [beq_eq_false_iff_ne];omega
 have e12:(kk==12)=false:=by rw [beq_eq_false_iff_ne];omega
 have e13:(kk==13)=false:=by rw [beq_eq_false_iff_ne];omega
 have HK:=hid (show (R.tk A ⟨kk,cy,co,a,b,v⟩).kind (stepA A ⟨kk,cy,co,a,b,v⟩) ⟨kk,cy,co,a,b,v⟩=R by rw [tk_other _ _ (by dsimp only;omega),kind_other _ _ (by dsimp only;omega)]);have HA1:=hid hA1;obtain ⟨ja,jc,ra,rc,ka,kc,ea,ec,hs⟩:=rb_out hs;clear hok1 hA1 hN he
 go_enter Tryz.func26,Tryz.ntmps26
 go_wp2_with fail;refine wp_gen (w0:=w0) ?_;intro wx hsx;clear hs;generalize w.heap.size=cb0 at *;refine wp_region_early (fun w'=>Sat w0 w' (pts (cb0+1) 0 [.int .i64 kk,.int .u64 cy,.int .u64 co,.int .u32 a,.int .u32 b,.int .u32 v]*any)) [(0,true),(1,true),(2,true),(3,true),(4,true),(5,true),(6,true),(7,true),(8,true),(9,true),(10,true),(11,true),(12,true),(13,true),(14,true),(15,true),(16,true),(17,true),(18,true),(19,true)] (by kernel_rfl) (by kernel_rfl) (fun _ _ _ _ h=>h) own_left ?_
 iterate 20 (first | refine early_S ?_ | refine early_N ?_)
 refine early_done ?_;go_wp2_with fail;refine (hNx.out _ _ own).mono ?_;rintro en w2 ⟨rfl,hy,_⟩;have hs2:=hy Hke.out;rw [← HA1.out] at hs2;clear hy hNx;go_wp2_with fail;obtain ⟨R1,hR1⟩:∃ R1:Rb,R1=R:=⟨_,rfl⟩;refine (hLo.out _ (rbP g R1*(F*any)) ?_).mono ?_
 ·rw [hR1];refine Sat.perm (rb_in (g:=g) (R:=R) (F:=rfP pb A1*(F*any)) (ja:=ja) (jc:=jc) (ra:=ra) (rc:=rc) (ka:=ka) (kc:=kc) (ea:=ea) (ec:=ec) (R.jb) R.ran (R.tak) (R.sc) rfl rfl rfl rfl ?_) (by ac_rfl);exact own_left
 rintro en w8 ⟨rfl,hs8⟩;have hJ1:R1.jb.length≤901:=by
  have q:=kd_len R A (stepA A ⟨kk,cy,co,a,b,v⟩) ⟨kk,cy,co,a,b,v⟩;rw [HK.out.trans hR1.symm] at q;omega
 have HE:=hid ((show R.ev A ⟨kk,cy,co,a,b,v⟩=((R.tk A ⟨kk,cy,co,a,b,v⟩).kind (stepA A ⟨kk,cy,co,a,b,v⟩) ⟨kk,cy,co,a,b,v⟩).lo (stepA A ⟨kk,cy,co,a,b,v⟩) from rfl).trans (show _=R1.lo A1 by rw [HK.out.trans hR1.symm,← HA1.out]));clear hR1 HK hLo;obtain ⟨z,hz⟩:∃ z,z=looA A1:=⟨_,rfl⟩;rw [← hz]
 cases z
 case false =>
  have hr:=hid (show R1.lo A1=R1 by unfold Rb.lo;rw [← hz];rfl);clear hz;go_wp2_with fail
  go_end0
  rw [HE.out,hr.out,← HA1.out];exact ⟨rfl,own_left⟩
 case true =>
  have hr:=hid (show R1.lo A1={ R1 with jb:=R1.jb.map unF } by unfold Rb.lo;rw [← hz];rfl);clear hz;obtain ⟨ja2,jc2,ra2,rc2,ka2,kc2,ea2,ec2,hs9⟩:=rb_out (hs8.pull (Q:=rbP g R1));clear hs8;go_wp2_with fail;refine wp_gen (w0:=w0) ?_;intro wx hsx;clear hs9
  go_loopw [12] (fun i wr=>∃ (k:Nat) (J:List Jb),k≤R1.jb.length∧i=.int .i64 k∧Hid (J=(R1.jb.take k).map unF++R1.jb.drop k)∧Sat w0 wr (pts g 0 [.slice ja2 R1.jb.length jc2,.slice ra2 R1.ran.length rc2,.slice ka2 R1.tak.length kc2,.slice ea2 R1.sc.length ec2]*(recsP (.slice ja2 R1.jb.length jc2) J*(numsP .u64 (.slice ra2 R1.ran.length rc2) R1.ran*(numsP .i64 (.slice ka2 R1.tak.length kc2) R1.tak*(recsP (.slice ea2 R1.sc.length ec2) R1.sc*(rfP pb A1*(F*any)))))))) (fun i _=>R1.jb.length-(intOf i).toNat)
  case atStart=>exact ⟨0,R1.jb,Nat.zero_le _,rfl,rfl,own_left⟩
  case round =>
   obtain ⟨k,J,hk,rfl,hJ,hsr⟩:=hrel;clear hsx
   by_cases hlt:k<R1.jb.length
   ·have d1:decide (k<R1.jb.length)=true:=decide_eq_true hlt;have i1:(k:Int)<(R1.jb.length:Int):=by omega
    have hlJ:J.length=R1.jb.length:=by rw [hJ.out];simp;omega
    haveI:Lt k J.length:=⟨by omega⟩;obtain ⟨jg0,jo,rfl⟩:=recs_at (hsr.pull (Q:=recsP (.slice ja2 R1.jb.length jc2) J)) (by omega);have hat:jg J k=jg R1.jb k:=by rw [hJ.out];exact jg_mid hlt
    have hnx:=hid (show J.set k (unF (jg J k))=(R1.jb.take (k+1)).map unF++R1.jb.drop (k+1) by rw [hat,hJ.out];exact unF_next unF hlt);clear hJ hat
    by_cases h1:(jg J k).ended=true
    ·have hn2:=hid (show J=(R1.jb.take (k+1)).map unF++R1.jb.drop (k+1) by rw [← hnx.out,show unF (jg J k)=jg J k by unfold unF;rw [if_pos h1],jg_self (by omega)]);clear hnx;go_wp2_with fail;go_roundw
     case rel=>exact ⟨k+1,J,by omega,by go_num,hn2,own_left⟩
     case measure=>simp [intOf];omega
    ·have h2:(jg J k).ended=false:=by simpa using h1
     have hn2:=hid (show J.set k { jg J k with tidy:=false }=(R1.jb.take (k+1)).map unF++R1.jb.drop (k+1) by rw [← hnx.out,show unF (jg J k)={ jg J k with tidy:=false } by unfold unF;rw [if_neg h1]]);clear hnx h1;go_wp2_with fail;go_roundw
     case rel=>exact ⟨k+1,_,by omega,by go_num,hn2,own_left⟩
     case measure=>simp [intOf];omega
   ·have d1:decide (k<R1.jb.length)=false:=decide_eq_false hlt;obtain rfl:k=R1.jb.length:=by omega
    have hJ2:=hid (show J=R1.jb.map unF by rw [hJ.out,List.take_length,List.drop_length,List.append_nil]);clear hJ;go_wp2_with fail
    go_end0
    rw [HE.out,hr.out,← HA1.out];refine ⟨rfl,rb_in (ja:=ja2) (jc:=jc2) (ra:=ra2) (rc:=rc2) (ka:=ka2) (kc:=kc2) (ea:=ea2) (ec:=ec2) J R1.ran R1.tak R1.sc hJ2.out.symm rfl rfl rfl ?_⟩;rw [show J.length=R1.jb.length by rw [hJ2.out,List.length_map]];exact own_left
theorem rEv5a (g pb:Nat) (R:Rb) (A:Au) (n:Nat) (cy co:Int) (a b v:Nat) (hb:b=255) (hN:EvNow n A R ⟨5,cy,co,a,b,v⟩) (hj:R.jb.length≤900) (hl:R.sc.length≤900) (he:EvOk ⟨5,cy,co,a,b,v⟩) (hse:0≤A.seen∧A.seen<1000000000) (c:Cf) (ta la sa qa ma:Option Addr) (tc lc sc qc mc:Nat) (w0 w:World) (F:HP) (hs:Sat w0 w (rbP g R*(rfP pb A*F))) :
  Calls Tryz.prog 26 #[.pointer (some ⟨g,0,none⟩),.pointer (some ⟨pb,0,none⟩),.agg #[.slice ta c.ts.length tc,.slice la c.ls.length lc,.int .i64 c.mutexes,.slice sa c.sems.length sc,.slice qa c.queues.length qc,.slice ma c.timers.length mc,.int .i64 c.table,.int .u32 c.mask,.int .u32 c.filter,.int .i64 c.charge,.int .u64 c.cycle,.int .u64 c.count],.agg #[.int .i64 5,.int .u64 cy,.int .u64 co,.int .u32 a,.int .u32 b,.int .u32 v]] w (RetV w0 (.tuple #[]) (rbP g (R.ev A ⟨5,cy,co,a,b,v⟩)*(rfP pb (stepA A ⟨5,cy,co,a,b,v⟩)*F))):=by
 subst hb;have hea:=he.a;dsimp only at hea;have u1:IntKind.i64.wrap (a:Int)=a:=by rw [IntKind.wrap_i64];omega
 have hok1:=aok_step hN.ok he hN.ke;have Hke:=hid hN.ke;have hNx:=hid (fun (w:World) (G:HP) (h:Sat w0 w (rfP pb A*G))=>rfNext pb A ⟨5,cy,co,a,255,v⟩ w0 w G h hN.ok he hse);obtain ⟨A1,hA1⟩:∃ A1,A1=stepA A ⟨5,cy,co,a,255,v⟩:=⟨_,rfl⟩;rw [← hA1] at hok1;have hLo:=hid (fun (w:World) (G:HP) (h:Sat w0 w (rfP pb A1*G))=>rLoose pb A1 w0 w G h hok1);have HK:=hid (show (R.tk A ⟨5,cy,co,a,255,v⟩).kind (stepA A ⟨5,cy,co,a,255,v⟩) ⟨5,cy,co,a,255,v⟩=R by rw [show R.tk A ⟨5,cy,co,a,255,v⟩=R by unfold Rb.tk;rw [if_neg (fun q=>q.2.1 rfl)],kind_other _ _ (by dsimp only;omega)]);have HA1:=hid hA1;obtain ⟨ja,jc,ra,rc,ka,kc,ea,ec,hs⟩:=rb_out hs;clear hok1 hA1 hN he
 go_enter Tryz.func26,Tryz.ntmps26
 go_wp2_with fail;refine wp_gen (w0:=w0) ?_;intro wx hsx;clear hs;generalize w.heap.size=cb0 at *;refine wp_region_early (fun w'=>Sat w0 w' (pts (cb0+1) 0 [.int .i64 5,.int .u64 cy,.int .u64 co,.int .u32 a,.int .u32 (255:Nat),.int .u32 v]*any)) [(0,true),(1,true),(2,true),(3,true),(4,true),(5,true),(6,true),(7,true),(8,true),(9,true),(10,true),(11,true),(12,true),(13,true),(14,true),(15,true),(16,true),(17,true),(18,true),(19,true)] (by kernel_rfl) (by kernel_rfl) (fun _ _ _ _ h=>h) own_left ?_
 iterate 20 (first | refine early_S ?_ | refine early_N ?_)
 refine early_done ?_;go_wp2_with fail;refine (hNx.out _ _ own).mono ?_;rintro en w2 ⟨rfl,hy,_⟩;have hs2:=hy Hke.out;rw [← HA1.out] at hs2;clear hy hNx;go_wp2_with fail;obtain ⟨R1,hR1⟩:∃ R1:Rb,R1=R:=⟨_,rfl⟩;refine (hLo.out _ (rbP g R1*(F*any)) ?_).mono ?_
 ·rw [hR1];refine Sat.perm (rb_in (g:=g) (R:=R) (F:=rfP pb A1*(F*any)) (ja:=ja) (jc:=jc) (ra:=ra) (rc:=rc) (ka:=ka) (kc:=kc) (ea:=ea) (ec:=ec) (R.jb) R.ran (R.tak) (R.sc) rfl rfl rfl rfl ?_) (by ac_rfl);exact own_left
 rintro en w8 ⟨rfl,hs8⟩;have hJ1:R1.jb.length≤901:=by
  have q:=kd_len R A (stepA A ⟨5,cy,co,a,255,v⟩) ⟨5,cy,co,a,255,v⟩;rw [HK.out.trans hR1.symm] at q;omega
 have HE:=hid ((show R.ev A ⟨5,cy,co,a,255,v⟩=((R.tk A ⟨5,cy,co,a,255,v⟩).kind (stepA A ⟨5,cy,co,a,255,v⟩) ⟨5,cy,co,a,255,v⟩).lo (stepA A ⟨5,cy,co,a,255,v⟩) from rfl).trans (show _=R1.lo A1 by rw [HK.out.trans hR1.symm,← HA1.out]));clear hR1 HK hLo;obtain ⟨z,hz⟩:∃ z,z=looA A1:=⟨_,rfl⟩;rw [← hz]
 cases z
 case false =>
  have hr:=hid (show R1.lo A1=R1 by unfold Rb.lo;rw [← hz];rfl);clear hz;go_wp2_with fail
  go_end0
  rw [HE.out,hr.out,← HA1.out];exact ⟨rfl,own_left⟩
 case true =>
  have hr:=hid (show R1.lo A1={ R1 with jb:=R1.jb.map unF } by unfold Rb.lo;rw [← hz];rfl);clear hz;obtain ⟨ja2,jc2,ra2,rc2,ka2,kc2,ea2,ec2,hs9⟩:=rb_out (hs8.pull (Q:=rbP g R1));clear hs8;go_wp2_with fail;refine wp_gen (w0:=w0) ?_;intro wx hsx;clear hs9
  go_loopw [12] (fun i wr=>∃ (k:Nat) (J:List Jb),k≤R1.jb.length∧i=.int .i64 k∧Hid (J=(R1.jb.take k).map unF++R1.jb.drop k)∧Sat w0 wr (pts g 0 [.slice ja2 R1.jb.length jc2,.slice ra2 R1.ran.length rc2,.slice ka2 R1.tak.length kc2,.slice ea2 R1.sc.length ec2]*(recsP (.slice ja2 R1.jb.length jc2) J*(numsP .u64 (.slice ra2 R1.ran.length rc2) R1.ran*(numsP .i64 (.slice ka2 R1.tak.length kc2) R1.tak*(recsP (.slice ea2 R1.sc.length ec2) R1.sc*(rfP pb A1*(F*any)))))))) (fun i _=>R1.jb.length-(intOf i).toNat)
  case atStart=>exact ⟨0,R1.jb,Nat.zero_le _,rfl,rfl,own_left⟩
  case round =>
   obtain ⟨k,J,hk,rfl,hJ,hsr⟩:=hrel;clear hsx
   by_cases hlt:k<R1.jb.length
   ·have d1:decide (k<R1.jb.length)=true:=decide_eq_true hlt;have i1:(k:Int)<(R1.jb.length:Int):=by omega
    have hlJ:J.length=R1.jb.length:=by rw [hJ.out];simp;omega
    haveI:Lt k J.length:=⟨by omega⟩;obtain ⟨jg0,jo,rfl⟩:=recs_at (hsr.pull (Q:=recsP (.slice ja2 R1.jb.length jc2) J)) (by omega);have hat:jg J k=jg R1.jb k:=by rw [hJ.out];exact jg_mid hlt
    have hnx:=hid (show J.set k (unF (jg J k))=(R1.jb.take (k+1)).map unF++R1.jb.drop (k+1) by rw [hat,hJ.out];exact unF_next unF hlt);clear hJ hat
    by_cases h1:(jg J k).ended=true
    ·have hn2:=hid (show J=(R1.jb.take (k+1)).map unF++R1.jb.drop (k+1) by rw [← hnx.out,show unF (jg J k)=jg J k by unfold unF;rw [if_pos h1],jg_self (by omega)]);clear hnx;go_wp2_with fail;go_roundw
     case rel=>exact ⟨k+1,J,by omega,by go_num,hn2,own_left⟩
     case measure=>simp [intOf];omega
    ·have h2:(jg J k).ended=false:=by simpa using h1
     have hn2:=hid (show J.set k { jg J k with tidy:=false }=(R1.jb.take (k+1)).map unF++R1.jb.drop (k+1) by rw [← hnx.out,show unF (jg J k)={ jg J k with tidy:=false } by unfold unF;rw [if_neg h1]]);clear hnx h1;go_wp2_with fail;go_roundw
     case rel=>exact ⟨k+1,_,by omega,by go_num,hn2,own_left⟩
     case measure=>simp [intOf];omega
   ·have d1:decide (k<R1.jb.length)=false:=decide_eq_false hlt;obtain rfl:k=R1.jb.length:=by omega
    have hJ2:=hid (show J=R1.jb.map unF by rw [hJ.out,List.take_length,List.drop_length,List.append_nil]);clear hJ;go_wp2_with fail
    go_end0
    rw [HE.out,hr.out,← HA1.out];refine ⟨rfl,rb_in (ja:=ja2) (jc:=jc2) (ra:=ra2) (rc:=rc2) (ka:=ka2) (kc:=kc2) (ea:=ea2) (ec:=ec2) J R1.ran R1.tak R1.sc hJ2.out.symm rfl rfl rfl ?_⟩;rw [show J.length=R1.jb.length by rw [hJ2.out,List.length_map]];exact own_left
theorem rEv5b (g pb:Nat) (R:Rb) (A:Au) (n:Nat) (cy co:Int) (a b v:Nat) (hb:b≠255) (hst:(tkAt A b).st≠1) (hN:EvNow n A R ⟨5,cy,co,a,b,v⟩) (hj:R.jb.length≤900) (hl:R.sc.length≤900) (he:EvOk ⟨5,cy,co,a,b,v⟩) (hse:0≤A.seen∧A.seen<1000000000) (c:Cf) (ta la sa qa ma:Option Addr) (tc lc sc qc mc:Nat) (w0 w:World) (F:HP) (hs:Sat w0 w (rbP g R*(rfP pb A*F))) :
  Calls Tryz.prog 26 #[.pointer (some ⟨g,0,none⟩),.pointer (some ⟨pb,0,none⟩),.agg #[.slice ta c.ts.length tc,.slice la c.ls.length lc,.int .i64 c.mutexes,.slice sa c.sems.length sc,.slice qa c.queues.length qc,.slice ma c.timers.length mc,.int .i64 c.table,.int .u32 c.mask,.int .u32 c.filter,.int .i64 c.charge,.int .u64 c.cycle,.int .u64 c.count],.agg #[.int .i64 5,.int .u64 cy,.int .u64 co,.int .u32 a,.int .u32 b,.int .u32 v]] w (RetV w0 (.tuple #[]) (rbP g (R.ev A ⟨5,cy,co,a,b,v⟩)*(rfP pb (stepA A ⟨5,cy,co,a,b,v⟩)*F))):=by
 have hea:=he.a;dsimp only at hea;have u1:IntKind.i64.wrap (a:Int)=a:=by rw [IntKind.wrap_i64];omega
 have hok1:=aok_step hN.ok he hN.ke;have Hke:=hid hN.ke;have hNx:=hid (fun (w:World) (G:HP) (h:Sat w0 w (rfP pb A*G))=>rfNext pb A ⟨5,cy,co,a,b,v⟩ w0 w G h hN.ok he hse);obtain ⟨A1,hA1⟩:∃ A1,A1=stepA A ⟨5,cy,co,a,b,v⟩:=⟨_,rfl⟩;rw [← hA1] at hok1;have hLo:=hid (fun (w:World) (G:HP) (h:Sat w0 w (rfP pb A1*G))=>rLoose pb A1 w0 w G h hok1);have hbn:b<n:=(hN.inn.sb rfl).resolve_left hb;have hb64:b<64:=by have:=hN.n64;omega
 haveI:Lt b A.ts.length:=⟨by rw [hN.ok.lt];exact hb64⟩;have ib:(b:Int)<64:=by omega
 have db:decide (b<64)=true:=decide_eq_true hb64;have eb:((b:Int) != 255)=true:=by simp;omega
 change (tkg A.ts b).st≠1 at hst
 have es:((tkg A.ts b).st==1)=false:=by rw [beq_eq_false_iff_ne];exact hst
 have HK:=hid (show (R.tk A ⟨5,cy,co,a,b,v⟩).kind (stepA A ⟨5,cy,co,a,b,v⟩) ⟨5,cy,co,a,b,v⟩=R by rw [show R.tk A ⟨5,cy,co,a,b,v⟩=R by unfold Rb.tk;rw [if_neg (fun q=>hst q.2.2)],kind_other _ _ (by dsimp only;omega)]);have HA1:=hid hA1;obtain ⟨tg,tq,cap,c1,c2,hs⟩:=rfP_out hN.ok (hs.pull (Q:=rfP pb A));have hlt64:=hN.ok.lt;have htl:=hN.tl;have htk:=hid hN.tk;have hs:=Sat.perm hs (show _=(rbP g R*(pts pb 0 [.slice (some ⟨tg,tq,none⟩) 64 cap]*(recsP (.slice (some ⟨tg,tq,none⟩) 64 cap) (A.ts.map toTr)*(pts pb 1 (dn A.ow)*(pts pb 33 (A.pn.map Value.bool)*(pts pb 49 [.int .i64 (A.isr-1),.int .i64 (rn A.run)]*(pts pb 51 (evCells A.last)*(pts pb 57 (evCells (duEv A.due))*(pts pb 63 [.int .i64 A.seen,.bool false]*F))))))))) by ac_rfl);obtain ⟨ja,jc,ra,rc,ka,kc,ea,ec,hs⟩:=rb_out hs;clear hok1 hA1 hN he
 go_enter Tryz.func26,Tryz.ntmps26
 go_wp2_with fail;clear hb hst eb;have eb:((b:Int) != 255)=true:=by simp;omega
 refine wp_gen (w0:=w0) ?_;intro wx hsx;clear hs;generalize w.heap.size=cb0 at *;refine wp_region_early (fun w'=>Sat w0 w' (pts pb 0 [.slice (some ⟨tg,tq,none⟩) 64 cap]*(recsP (.slice (some ⟨tg,tq,none⟩) 64 cap) (A.ts.map toTr)*(pts pb 1 (dn A.ow)*(pts pb 33 (A.pn.map Value.bool)*(pts pb 49 [.int .i64 (A.isr-1),.int .i64 (rn A.run)]*(pts pb 51 (evCells A.last)*(pts pb 57 (evCells (duEv A.due))*(pts pb 63 [.int .i64 A.seen,.bool false]*(pts (cb0+1) 0 [.int .i64 5,.int .u64 cy,.int .u64 co,.int .u32 a,.int .u32 b,.int .u32 v]*any)))))))))) [(0,true),(1,true),(2,true),(3,true),(4,true),(5,true),(6,true),(7,true),(8,true),(9,true),(10,true),(11,true),(12,true),(13,true),(14,true),(15,true),(16,true),(17,true),(18,true),(19,true)] (by kernel_rfl) (by kernel_rfl) (fun _ _ _ _ h=>h) own_left ?_
 iterate 20 (first | refine early_S ?_ | refine early_N ?_)
 refine early_done ?_;go_wp2_with fail;refine (hNx.out _ ((pts g 0 [.slice ja R.jb.length jc,.slice ra R.ran.length rc,.slice ka R.tak.length kc,.slice ea R.sc.length ec]*(recsP (.slice ja R.jb.length jc) R.jb*(numsP .u64 (.slice ra R.ran.length rc) R.ran*(numsP .i64 (.slice ka R.tak.length kc) R.tak*(recsP (.slice ea R.sc.length ec) R.sc*(pts (cb0+1) 0 [.int .i64 5,.int .u64 cy,.int .u64 co,.int .u32 a,.int .u32 b,.int .u32 v]*(F*any)))))))) (rfP_of (v:=.slice (some ⟨tg,tq,none⟩) 64 cap) ?_)).mono ?_
 ·exact own_left
 rintro en w2 ⟨rfl,hy,_⟩;have hs2:=hy Hke.out;rw [← HA1.out] at hs2;clear hy hNx;go_wp2_with fail;obtain ⟨R1,hR1⟩:∃ R1:Rb,R1=R:=⟨_,rfl⟩;refine (hLo.out _ (rbP g R1*(F*any)) ?_).mono ?_
 ·rw [hR1];refine Sat.perm (rb_in (g:=g) (R:=R) (F:=rfP pb A1*(F*any)) (ja:=ja) (jc:=jc) (ra:=ra) (rc:=rc) (ka:=ka) (kc:=kc) (ea:=ea) (ec:=ec) (R.jb) R.ran (R.tak) (R.sc) rfl rfl rfl rfl ?_) (by ac_rfl);exact own_left
 rintro en w8 ⟨rfl,hs8⟩;have hJ1:R1.jb.length≤901:=by
  have q:=kd_len R A (stepA A ⟨5,cy,co,a,b,v⟩) ⟨5,cy,co,a,b,v⟩;rw [HK.out.trans hR1.symm] at q;omega
 have HE:=hid ((show R.ev A ⟨5,cy,co,a,b,v⟩=((R.tk A ⟨5,cy,co,a,b,v⟩).kind (stepA A ⟨5,cy,co,a,b,v⟩) ⟨5,cy,co,a,b,v⟩).lo (stepA A ⟨5,cy,co,a,b,v⟩) from rfl).trans (show _=R1.lo A1 by rw [HK.out.trans hR1.symm,← HA1.out]));clear hR1 HK hLo;obtain ⟨z,hz⟩:∃ z,z=looA A1:=⟨_,rfl⟩;rw [← hz]
 cases z
 case false =>
  have hr:=hid (show R1.lo A1=R1 by unfold Rb.lo;rw [← hz];rfl);clear hz;go_wp2_with fail
  go_end0
  rw [HE.out,hr.out,← HA1.out];exact ⟨rfl,own_left⟩
 case true =>
  have hr:=hid (show R1.lo A1={ R1 with jb:=R1.jb.map unF } by unfold Rb.lo;rw [← hz];rfl);clear hz;obtain ⟨ja2,jc2,ra2,rc2,ka2,kc2,ea2,ec2,hs9⟩:=rb_out (hs8.pull (Q:=rbP g R1));clear hs8;go_wp2_with fail;refine wp_gen (w0:=w0) ?_;intro wx hsx;clear hs9
  go_loopw [12] (fun i wr=>∃ (k:Nat) (J:List Jb),k≤R1.jb.length∧i=.int .i64 k∧Hid (J=(R1.jb.take k).map unF++R1.jb.drop k)∧Sat w0 wr (pts g 0 [.slice ja2 R1.jb.length jc2,.slice ra2 R1.ran.length rc2,.slice ka2 R1.tak.length kc2,.slice ea2 R1.sc.length ec2]*(recsP (.slice ja2 R1.jb.length jc2) J*(numsP .u64 (.slice ra2 R1.ran.length rc2) R1.ran*(numsP .i64 (.slice ka2 R1.tak.length kc2) R1.tak*(recsP (.slice ea2 R1.sc.length ec2) R1.sc*(rfP pb A1*(F*any)))))))) (fun i _=>R1.jb.length-(intOf i).toNat)
  case atStart=>exact ⟨0,R1.jb,Nat.zero_le _,rfl,rfl,own_left⟩
  case round =>
   obtain ⟨k,J,hk,rfl,hJ,hsr⟩:=hrel;clear hsx
   by_cases hlt:k<R1.jb.length
   ·have d1:decide (k<R1.jb.length)=true:=decide_eq_true hlt;have i1:(k:Int)<(R1.jb.length:Int):=by omega
    have hlJ:J.length=R1.jb.length:=by rw [hJ.out];simp;omega
    haveI:Lt k J.length:=⟨by omega⟩;obtain ⟨jg0,jo,rfl⟩:=recs_at (hsr.pull (Q:=recsP (.slice ja2 R1.jb.length jc2) J)) (by omega);have hat:jg J k=jg R1.jb k:=by rw [hJ.out];exact jg_mid hlt
    have hnx:=hid (show J.set k (unF (jg J k))=(R1.jb.take (k+1)).map unF++R1.jb.drop (k+1) by rw [hat,hJ.out];exact unF_next unF hlt);clear hJ hat
    by_cases h1:(jg J k).ended=true
    ·have hn2:=hid (show J=(R1.jb.take (k+1)).map unF++R1.jb.drop (k+1) by rw [← hnx.out,show unF (jg J k)=jg J k by unfold unF;rw [if_pos h1],jg_self (by omega)]);clear hnx;go_wp2_with fail;go_roundw
     case rel=>exact ⟨k+1,J,by omega,by go_num,hn2,own_left⟩
     case measure=>simp [intOf];omega
    ·have h2:(jg J k).ended=false:=by simpa using h1
     have hn2:=hid (show J.set k { jg J k with tidy:=false }=(R1.jb.take (k+1)).map unF++R1.jb.drop (k+1) by rw [← hnx.out,show unF (jg J k)={ jg J k with tidy:=false } by unfold unF;rw [if_neg h1]]);clear hnx h1;go_wp2_with fail;go_roundw
     case rel=>exact ⟨k+1,_,by omega,by go_num,hn2,own_left⟩
     case measure=>simp [intOf];omega
   ·have d1:decide (k<R1.jb.length)=false:=decide_eq_false hlt;obtain rfl:k=R1.jb.length:=by omega
    have hJ2:=hid (show J=R1.jb.map unF by rw [hJ.out,List.take_length,List.drop_length,List.append_nil]);clear hJ;go_wp2_with fail
    go_end0
    rw [HE.out,hr.out,← HA1.out];refine ⟨rfl,rb_in (ja:=ja2) (jc:=jc2) (ra:=ra2) (rc:=rc2) (ka:=ka2) (kc:=kc2) (ea:=ea2) (ec:=ec2) J R1.ran R1.tak R1.sc hJ2.out.symm rfl rfl rfl ?_⟩;rw [show J.length=R1.jb.length by rw [hJ2.out,List.length_map]];exact own_left
theorem rEv5t (g pb:Nat) (R:Rb) (A:Au) (n:Nat) (cy co:Int) (a b v:Nat) (hb:b≠255) (hst:(tkAt A b).st=1) (hN:EvNow n A R ⟨5,cy,co,a,b,v⟩) (hj:R.jb.length≤900) (hl:R.sc.length≤900) (he:EvOk ⟨5,cy,co,a,b,v⟩) (hse:0≤A.seen∧A.seen<1000000000) (c:Cf) (ta la sa qa ma:Option Addr) (tc lc sc qc mc:Nat) (w0 w:World) (F:HP) (hs:Sat w0 w (rbP g R*(rfP pb A*F))) :
  Calls Tryz.prog 26 #[.pointer (some ⟨g,0,none⟩),.pointer (some ⟨pb,0,none⟩),.agg #[.slice ta c.ts.length tc,.slice la c.ls.length lc,.int .i64 c.mutexes,.slice sa c.sems.length sc,.slice qa c.queues.length qc,.slice ma c.timers.length mc,.int .i64 c.table,.int .u32 c.mask,.int .u32 c.filter,.int .i64 c.charge,.int .u64 c.cycle,.int .u64 c.count],.agg #[.int .i64 5,.int .u64 cy,.int .u64 co,.int .u32 a,.int .u32 b,.int .u32 v]] w (RetV w0 (.tuple #[]) (rbP g (R.ev A ⟨5,cy,co,a,b,v⟩)*(rfP pb (stepA A ⟨5,cy,co,a,b,v⟩)*F))):=by
 have hea:=he.a;dsimp only at hea;have u1:IntKind.i64.wrap (a:Int)=a:=by rw [IntKind.wrap_i64];omega
 have hok1:=aok_step hN.ok he hN.ke;have Hke:=hid hN.ke;have hNx:=hid (fun (w:World) (G:HP) (h:Sat w0 w (rfP pb A*G))=>rfNext pb A ⟨5,cy,co,a,b,v⟩ w0 w G h hN.ok he hse);obtain ⟨A1,hA1⟩:∃ A1,A1=stepA A ⟨5,cy,co,a,b,v⟩:=⟨_,rfl⟩;rw [← hA1] at hok1;have hLo:=hid (fun (w:World) (G:HP) (h:Sat w0 w (rfP pb A1*G))=>rLoose pb A1 w0 w G h hok1);have hbn:b<n:=(hN.inn.sb rfl).resolve_left hb;have hb64:b<64:=by have:=hN.n64;omega
 haveI:Lt b A.ts.length:=⟨by rw [hN.ok.lt];exact hb64⟩;have ib:(b:Int)<64:=by omega
 have db:decide (b<64)=true:=decide_eq_true hb64;have eb:((b:Int) != 255)=true:=by simp;omega
 change (tkg A.ts b).st=1 at hst
 have es:((tkg A.ts b).st==1)=true:=by rw [beq_iff_eq];exact hst
 have HK:=hid (show (R.tk A ⟨5,cy,co,a,b,v⟩).kind (stepA A ⟨5,cy,co,a,b,v⟩) ⟨5,cy,co,a,b,v⟩={ R with tak:=R.tak.set b (ig R.tak b+1) } by rw [show R.tk A ⟨5,cy,co,a,b,v⟩={ R with tak:=R.tak.set b (ig R.tak b+1) } by unfold Rb.tk;rw [if_pos ⟨rfl,hb,hst⟩],kind_other _ _ (by dsimp only;omega)]);have HA1:=hid hA1;obtain ⟨tg,tq,cap,c1,c2,hs⟩:=rfP_out hN.ok (hs.pull (Q:=rfP pb A));have hlt64:=hN.ok.lt;have htl:=hN.tl;have htk:=hid hN.tk;have hs:=Sat.perm hs (show _=(rbP g R*(pts pb 0 [.slice (some ⟨tg,tq,none⟩) 64 cap]*(recsP (.slice (some ⟨tg,tq,none⟩) 64 cap) (A.ts.map toTr)*(pts pb 1 (dn A.ow)*(pts pb 33 (A.pn.map Value.bool)*(pts pb 49 [.int .i64 (A.isr-1),.int .i64 (rn A.run)]*(pts pb 51 (evCells A.last)*(pts pb 57 (evCells (duEv A.due))*(pts pb 63 [.int .i64 A.seen,.bool false]*F))))))))) by ac_rfl);obtain ⟨ja,jc,ra,rc,ka,kc,ea,ec,hs⟩:=rb_out hs;clear hok1 hA1 hN he
 go_enter Tryz.func26,Tryz.ntmps26
 go_wp2_with fail;clear hb hst eb;have eb:((b:Int) != 255)=true:=by simp;omega
 haveI:Lt b R.tak.length:=⟨by rw [htl];exact hbn⟩;have it:(b:Int)<(R.tak.length:Int):=by rw [htl];omega
 have dt:decide (b<R.tak.length)=true:=decide_eq_true (by rw [htl];exact hbn);obtain ⟨kg,ko,kcap,_,_,h5,_⟩:=Sat.nums_form (show Sat w0 w (numsP .i64 (.slice ka R.tak.length kc) R.tak*any) from own_left);have h5:=h5 (by rintro e5;rw [e5] at it;simp at it;omega);simp only [Value.slice.injEq,true_and] at h5;obtain ⟨rfl,rfl⟩:=h5;have hig:ig R.tak b=R.tak.getD b 0:=rfl;have htb:=htk.out b;rw [hig] at htb;have ut:IntKind.i64.wrap (R.tak.getD b 0+1)=R.tak.getD b 0+1:=by rw [IntKind.wrap_i64];omega
 obtain ⟨tb,htb2⟩:∃ tb,tb=R.tak.getD b 0:=⟨_,rfl⟩;haveI:Cell (numsP .i64 (.slice (some ⟨kg,ko,none⟩) R.tak.length kc) R.tak) kg (ko+b) (.int .i64 tb):=htb2 ▸ inferInstance;rw [← htb2] at ut htb hig;have HtB:=hid hig;clear htb2 htb hig;refine wp_gen (w0:=w0) ?_;intro wx hsx;clear hs;generalize w.heap.size=cb0 at *;refine wp_region_early (fun w'=>Sat w0 w' (pts pb 0 [.slice (some ⟨tg,tq,none⟩) 64 cap]*(recsP (.slice (some ⟨tg,tq,none⟩) 64 cap) (A.ts.map toTr)*(pts pb 1 (dn A.ow)*(pts pb 33 (A.pn.map Value.bool)*(pts pb 49 [.int .i64 (A.isr-1),.int .i64 (rn A.run)]*(pts pb 51 (evCells A.last)*(pts pb 57 (evCells (duEv A.due))*(pts pb 63 [.int .i64 A.seen,.bool false]*(pts (cb0+1) 0 [.int .i64 5,.int .u64 cy,.int .u64 co,.int .u32 a,.int .u32 b,.int .u32 v]*any)))))))))) [(0,true),(1,true),(2,true),(3,true),(4,true),(5,true),(6,true),(7,true),(8,true),(9,true),(10,true),(11,true),(12,true),(13,true),(14,true),(15,true),(16,true),(17,true),(18,true),(19,true)] (by kernel_rfl) (by kernel_rfl) (fun _ _ _ _ h=>h) own_left ?_
 iterate 20 (first | refine early_S ?_ | refine early_N ?_)
 refine early_done ?_;go_wp2_with fail;refine wp_gen (w0:=w0) ?_;intro wy hsy;clear hsx;refine wp_region_till (fun w'=>Sat w0 w' (pts g 0 [.slice ja R.jb.length jc,.slice ra R.ran.length rc,.slice (some ⟨kg,ko,none⟩) R.tak.length kc,.slice ea R.sc.length ec]*(recsP (.slice ja R.jb.length jc) R.jb*(numsP .u64 (.slice ra R.ran.length rc) R.ran*(numsP .i64 (.slice (some ⟨kg,ko,none⟩) R.tak.length kc) R.tak*(recsP (.slice ea R.sc.length ec) R.sc*(pts (cb0+1) 0 [.int .i64 5,.int .u64 cy,.int .u64 co,.int .u32 a,.int .u32 b,.int .u32 v]*any))))))) 10 [(0,0),(1,0),(2,0),(3,1),(4,0),(5,1),(6,0),(7,1),(8,0),(9,0),(10,2)] (by kernel_rfl) (by kernel_rfl) (fun _ _ _ _ h=>h) own_left ?_
 iterate 10 (first | refine plan_pS ?_ | refine plan_rS ?_ | refine plan_pN ?_ | refine plan_rN ?_)
 refine plan_G rfl (by rfl) (fun K hK=>?_);go_wp2_with fail;refine ⟨fun h=>absurd rfl h,plan_done ?_⟩;go_wp2_with fail;refine (hNx.out _ ((pts g 0 [.slice ja R.jb.length jc,.slice ra R.ran.length rc,.slice (some ⟨kg,ko,none⟩) R.tak.length kc,.slice ea R.sc.length ec]*(recsP (.slice ja R.jb.length jc) R.jb*(numsP .u64 (.slice ra R.ran.length rc) R.ran*(numsP .i64 (.slice (some ⟨kg,ko,none⟩) R.tak.length kc) (R.tak.set b (tb+1))*(recsP (.slice ea R.sc.length ec) R.sc*(pts (cb0+1) 0 [.int .i64 5,.int .u64 cy,.int .u64 co,.int .u32 a,.int .u32 b,.int .u32 v]*(F*any)))))))) (rfP_of (v:=.slice (some ⟨tg,tq,none⟩) 64 cap) ?_)).mono ?_
 ·exact own_left
 rintro en w2 ⟨rfl,hy,_⟩;have hs2:=hy Hke.out;rw [← HA1.out] at hs2;clear hy hNx;go_wp2_with fail;obtain ⟨R1,hR1⟩:∃ R1:Rb,R1={ R with tak:=R.tak.set b (ig R.tak b+1) }:=⟨_,rfl⟩;refine (hLo.out _ (rbP g R1*(F*any)) ?_).mono ?_
 ·rw [hR1];refine Sat.perm (rb_in (g:=g) (R:={ R with tak:=R.tak.set b (ig R.tak b+1) }) (F:=rfP pb A1*(F*any)) (ja:=ja) (jc:=jc) (ra:=ra) (rc:=rc) (ka:=some ⟨kg,ko,none⟩) (kc:=kc) (ea:=ea) (ec:=ec) (R.jb) R.ran (R.tak.set b (tb+1)) (R.sc) rfl rfl (by dsimp only;rw [HtB.out]) rfl ?_) (by ac_rfl);rw [List.length_set];exact own_left
 rintro en w8 ⟨rfl,hs8⟩;have hJ1:R1.jb.length≤901:=by
  have q:=kd_len R A (stepA A ⟨5,cy,co,a,b,v⟩) ⟨5,cy,co,a,b,v⟩;rw [HK.out.trans hR1.symm] at q;omega
 have HE:=hid ((show R.ev A ⟨5,cy,co,a,b,v⟩=((R.tk A ⟨5,cy,co,a,b,v⟩).kind (stepA A ⟨5,cy,co,a,b,v⟩) ⟨5,cy,co,a,b,v⟩).lo (stepA A ⟨5,cy,co,a,b,v⟩) from rfl).trans (show _=R1.lo A1 by rw [HK.out.trans hR1.symm,← HA1.out]));clear hR1 HK hLo;obtain ⟨z,hz⟩:∃ z,z=looA A1:=⟨_,rfl⟩;rw [← hz]
 cases z
 case false =>
  have hr:=hid (show R1.lo A1=R1 by unfold Rb.lo;rw [← hz];rfl);clear hz;go_wp2_with fail
  go_end0
  rw [HE.out,hr.out,← HA1.out];exact ⟨rfl,own_left⟩
 case true =>
  have hr:=hid (show R1.lo A1={ R1 with jb:=R1.jb.map unF } by unfold Rb.lo;rw [← hz];rfl);clear hz;obtain ⟨ja2,jc2,ra2,rc2,ka2,kc2,ea2,ec2,hs9⟩:=rb_out (hs8.pull (Q:=rbP g R1));clear hs8;go_wp2_with fail;refine wp_gen (w0:=w0) ?_;intro wx hsx;clear hs9
  go_loopw [12] (fun i wr=>∃ (k:Nat) (J:List Jb),k≤R1.jb.length∧i=.int .i64 k∧Hid (J=(R1.jb.take k).map unF++R1.jb.drop k)∧Sat w0 wr (pts g 0 [.slice ja2 R1.jb.length jc2,.slice ra2 R1.ran.length rc2,.slice ka2 R1.tak.length kc2,.slice ea2 R1.sc.length ec2]*(recsP (.slice ja2 R1.jb.length jc2) J*(numsP .u64 (.slice ra2 R1.ran.length rc2) R1.ran*(numsP .i64 (.slice ka2 R1.tak.length kc2) R1.tak*(recsP (.slice ea2 R1.sc.length ec2) R1.sc*(rfP pb A1*(F*any)))))))) (fun i _=>R1.jb.length-(intOf i).toNat)
  case atStart=>exact ⟨0,R1.jb,Nat.zero_le _,rfl,rfl,own_left⟩
  case round =>
   obtain ⟨k,J,hk,rfl,hJ,hsr⟩:=hrel;clear hsx
   by_cases hlt:k<R1.jb.length
   ·have d1:decide (k<R1.jb.length)=true:=decide_eq_true hlt;have i1:(k:Int)<(R1.jb.length:Int):=by omega
    have hlJ:J.length=R1.jb.length:=by rw [hJ.out];simp;omega
    haveI:Lt k J.length:=⟨by omega⟩;obtain ⟨jg0,jo,rfl⟩:=recs_at (hsr.pull (Q:=recsP (.slice ja2 R1.jb.length jc2) J)) (by omega);have hat:jg J k=jg R1.jb k:=by rw [hJ.out];exact jg_mid hlt
    have hnx:=hid (show J.set k (unF (jg J k))=(R1.jb.take (k+1)).map unF++R1.jb.drop (k+1) by rw [hat,hJ.out];exact unF_next unF hlt);clear hJ hat
    by_cases h1:(jg J k).ended=true
    ·have hn2:=hid (show J=(R1.jb.take (k+1)).map unF++R1.jb.drop (k+1) by rw [← hnx.out,show unF (jg J k)=jg J k by unfold unF;rw [if_pos h1],jg_self (by omega)]);clear hnx;go_wp2_with fail;go_roundw
     case rel=>exact ⟨k+1,J,by omega,by go_num,hn2,own_left⟩
     case measure=>simp [intOf];omega
    ·have h2:(jg J k).ended=false:=by simpa using h1
     have hn2:=hid (show J.set k { jg J k with tidy:=false }=(R1.jb.take (k+1)).map unF++R1.jb.drop (k+1) by rw [← hnx.out,show unF (jg J k)={ jg J k with tidy:=false } by unfold unF;rw [if_neg h1]]);clear hnx h1;go_wp2_with fail;go_roundw
     case rel=>exact ⟨k+1,_,by omega,by go_num,hn2,own_left⟩
     case measure=>simp [intOf];omega
   ·have d1:decide (k<R1.jb.length)=false:=decide_eq_false hlt;obtain rfl:k=R1.jb.length:=by omega
    have hJ2:=hid (show J=R1.jb.map unF by rw [hJ.out,List.take_length,List.drop_length,List.append_nil]);clear hJ;go_wp2_with fail
    go_end0
    rw [HE.out,hr.out,← HA1.out];refine ⟨rfl,rb_in (ja:=ja2) (jc:=jc2) (ra:=ra2) (rc:=rc2) (ka:=ka2) (kc:=kc2) (ea:=ea2) (ec:=ec2) J R1.ran R1.tak R1.sc hJ2.out.symm rfl rfl rfl ?_⟩;rw [show J.length=R1.jb.length by rw [hJ2.out,List.length_map]];exact own_left
theorem rEv6 (g pb:Nat) (R:Rb) (A:Au) (n:Nat) (cy co:Int) (a b v:Nat) (hN:EvNow n A R ⟨6,cy,co,a,b,v⟩) (hj:R.jb.length≤900) (hl:R.sc.length≤900) (he:EvOk ⟨6,cy,co,a,b,v⟩) (hse:0≤A.seen∧A.seen<1000000000) (c:Cf) (ta la sa qa ma:Option Addr) (tc lc sc qc mc:Nat) (w0 w:World) (F:HP) (hs:Sat w0 w (rbP g R*(rfP pb A*F))) :
  Calls Tryz.prog 26 #[.pointer (some ⟨g,0,none⟩),.pointer (some ⟨pb,0,none⟩),.agg #[.slice ta c.ts.length tc,.slice la c.ls.length lc,.int .i64 c.mutexes,.slice sa c.sems.length sc,.slice qa c.queues.length qc,.slice ma c.timers.length mc,.int .i64 c.table,.int .u32 c.mask,.int .u32 c.filter,.int .i64 c.charge,.int .u64 c.cycle,.int .u64 c.count],.agg #[.int .i64 6,.int .u64 cy,.int .u64 co,.int .u32 a,.int .u32 b,.int .u32 v]] w (RetV w0 (.tuple #[]) (rbP g (R.ev A ⟨6,cy,co,a,b,v⟩)*(rfP pb (stepA A ⟨6,cy,co,a,b,v⟩)*F))):=by
 have hea:=he.a;dsimp only at hea;have u1:IntKind.i64.wrap (a:Int)=a:=by rw [IntKind.wrap_i64];omega
 have hok1:=aok_step hN.ok he hN.ke;have Hke:=hid hN.ke;have hNx:=hid (fun (w:World) (G:HP) (h:Sat w0 w (rfP pb A*G))=>rfNext pb A ⟨6,cy,co,a,b,v⟩ w0 w G h hN.ok he hse);obtain ⟨A1,hA1⟩:∃ A1,A1=stepA A ⟨6,cy,co,a,b,v⟩:=⟨_,rfl⟩;rw [← hA1] at hok1;have hLo:=hid (fun (w:World) (G:HP) (h:Sat w0 w (rfP pb A1*G))=>rLoose pb A1 w0 w G h hok1);have HK:=hid (show (R.tk A ⟨6,cy,co,a,b,v⟩).kind (stepA A ⟨6,cy,co,a,b,v⟩) ⟨6,cy,co,a,b,v⟩={ R with jb:=R.jb++[⟨a,v,co,0,false,false,0,0,true⟩] } by rw [tk_other _ _ (by dsimp only;omega)];unfold Rb.kind;rw [if_pos rfl]);have HA1:=hid hA1;obtain ⟨ja,jc,ra,rc,ka,kc,ea,ec,hs⟩:=rb_out hs;clear hok1 hA1 hN he
 go_enter Tryz.func26,Tryz.ntmps26
 go_wp2_with fail;refine wp_gen (w0:=w0) ?_;intro wx hsx;clear hs;generalize w.heap.size=cb0 at *;refine wp_region_early (fun w'=>Sat w0 w' (pts (cb0+1) 0 [.int .i64 6,.int .u64 cy,.int .u64 co,.int .u32 a,.int .u32 b,.int .u32 v]*any)) [(0,true),(1,true),(2,true),(3,true),(4,true),(5,true),(6,true),(7,true),(8,true),(9,true),(10,true),(11,true),(12,true),(13,true),(14,true),(15,true),(16,true),(17,true),(18,true),(19,true)] (by kernel_rfl) (by kernel_rfl) (fun _ _ _ _ h=>h) own_left ?_
 iterate 20 (first | refine early_S ?_ | refine early_N ?_)
 refine early_done ?_;go_wp2_with fail;refine (hNx.out _ _ own).mono ?_;rintro en w2 ⟨rfl,hy,_⟩;have hs2:=hy Hke.out;rw [← HA1.out] at hs2;clear hy hNx;go_wp2_with fail;refine wp_gen (w0:=w0) ?_;intro wy hsy;clear hs2 hsx;refine wp_region_till (fun w'=>Sat w0 w' (pts g 0 [.slice ja R.jb.length jc,.slice ra R.ran.length rc,.slice ka R.tak.length kc,.slice ea R.sc.length ec]*(pts (cb0+1) 0 [.int .i64 6,.int .u64 cy,.int .u64 co,.int .u32 a,.int .u32 b,.int .u32 v]*any))) 15 [(0,0),(1,0),(2,0),(3,0),(4,1),(5,0),(6,0),(7,1),(8,0),(9,1),(10,0),(11,2),(12,2),(13,0),(14,0),(15,2)] (by kernel_rfl) (by kernel_rfl) (fun _ _ _ _ h=>h) own_left ?_
 iterate 11 (first | refine plan_pS ?_ | refine plan_rS ?_ | refine plan_pN ?_ | refine plan_rN ?_)
 refine plan_G rfl (by rfl) (fun K hK=>?_);go_wp2_with fail;refine ⟨fun _=>own_left,?_⟩;refine plan_G rfl (by rfl) (fun K hK=>?_);refine wp_append_recs rfl rfl rfl (by omega) ?_;intro ap ac aL aw ahL ah1 ah2 ahs _;refine hK _ _ ⟨fun _=>own_left,?_⟩;clear hK K;simp only [Act.put,zqA,zqP,zqQ]
 iterate 2 (first | refine plan_pS ?_ | refine plan_rS ?_ | refine plan_pN ?_ | refine plan_rN ?_)
 refine plan_G rfl (by rfl) (fun K hK=>?_);go_wp2_with fail;refine ⟨fun h=>absurd rfl h,plan_done ?_⟩;go_wp2_with fail;obtain ⟨R1,hR1⟩:∃ R1:Rb,R1={ R with jb:=R.jb++[⟨a,v,co,0,false,false,0,0,true⟩] }:=⟨_,rfl⟩;refine (hLo.out _ (rbP g R1*(F*any)) ?_).mono ?_
 ·rw [hR1];refine Sat.perm (rb_in (g:=g) (R:={ R with jb:=R.jb++[⟨a,v,co,0,false,false,0,0,true⟩] }) (F:=rfP pb A1*(F*any)) (ja:=ap) (jc:=ac) (ra:=ra) (rc:=rc) (ka:=ka) (kc:=kc) (ea:=ea) (ec:=ec) (aL) R.ran (R.tak) (R.sc) ahL.out.symm rfl rfl rfl ?_) (by ac_rfl);exact own_left
 rintro en w8 ⟨rfl,hs8⟩;have hJ1:R1.jb.length≤901:=by
  have q:=kd_len R A (stepA A ⟨6,cy,co,a,b,v⟩) ⟨6,cy,co,a,b,v⟩;rw [HK.out.trans hR1.symm] at q;omega
 have HE:=hid ((show R.ev A ⟨6,cy,co,a,b,v⟩=((R.tk A ⟨6,cy,co,a,b,v⟩).kind (stepA A ⟨6,cy,co,a,b,v⟩) ⟨6,cy,co,a,b,v⟩).lo (stepA A ⟨6,cy,co,a,b,v⟩) from rfl).trans (show _=R1.lo A1 by rw [HK.out.trans hR1.symm,← HA1.out]));clear hR1 HK hLo;obtain ⟨z,hz⟩:∃ z,z=looA A1:=⟨_,rfl⟩;rw [← hz]
 cases z
 case false =>
  have hr:=hid (show R1.lo A1=R1 by unfold Rb.lo;rw [← hz];rfl);clear hz;go_wp2_with fail
  go_end0
  rw [HE.out,hr.out,← HA1.out];exact ⟨rfl,own_left⟩
 case true =>
  have hr:=hid (show R1.lo A1={ R1 with jb:=R1.jb.map unF } by unfold Rb.lo;rw [← hz];rfl);clear hz;obtain ⟨ja2,jc2,ra2,rc2,ka2,kc2,ea2,ec2,hs9⟩:=rb_out (hs8.pull (Q:=rbP g R1));clear hs8;go_wp2_with fail;refine wp_gen (w0:=w0) ?_;intro wx hsx;clear hs9
  go_loopw [12] (fun i wr=>∃ (k:Nat) (J:List Jb),k≤R1.jb.length∧i=.int .i64 k∧Hid (J=(R1.jb.take k).map unF++R1.jb.drop k)∧Sat w0 wr (pts g 0 [.slice ja2 R1.jb.length jc2,.slice ra2 R1.ran.length rc2,.slice ka2 R1.tak.length kc2,.slice ea2 R1.sc.length ec2]*(recsP (.slice ja2 R1.jb.length jc2) J*(numsP .u64 (.slice ra2 R1.ran.length rc2) R1.ran*(numsP .i64 (.slice ka2 R1.tak.length kc2) R1.tak*(recsP (.slice ea2 R1.sc.length ec2) R1.sc*(rfP pb A1*(F*any)))))))) (fun i _=>R1.jb.length-(intOf i).toNat)
  case atStart=>exact ⟨0,R1.jb,Nat.zero_le _,rfl,rfl,own_left⟩
  case round =>
   obtain ⟨k,J,hk,rfl,hJ,hsr⟩:=hrel;clear hsx
   by_cases hlt:k<R1.jb.length
   ·have d1:decide (k<R1.jb.length)=true:=decide_eq_true hlt;have i1:(k:Int)<(R1.jb.length:Int):=by omega
    have hlJ:J.length=R1.jb.length:=by rw [hJ.out];simp;omega
    haveI:Lt k J.length:=⟨by omega⟩;obtain ⟨jg0,jo,rfl⟩:=recs_at (hsr.pull (Q:=recsP (.slice ja2 R1.jb.length jc2) J)) (by omega);have hat:jg J k=jg R1.jb k:=by rw [hJ.out];exact jg_mid hlt
    have hnx:=hid (show J.set k (unF (jg J k))=(R1.jb.take (k+1)).map unF++R1.jb.drop (k+1) by rw [hat,hJ.out];exact unF_next unF hlt);clear hJ hat
    by_cases h1:(jg J k).ended=true
    ·have hn2:=hid (show J=(R1.jb.take (k+1)).map unF++R1.jb.drop (k+1) by rw [← hnx.out,show unF (jg J k)=jg J k by unfold unF;rw [if_pos h1],jg_self (by omega)]);clear hnx;go_wp2_with fail;go_roundw
     case rel=>exact ⟨k+1,J,by omega,by go_num,hn2,own_left⟩
     case measure=>simp [intOf];omega
    ·have h2:(jg J k).ended=false:=by simpa using h1
     have hn2:=hid (show J.set k { jg J k with tidy:=false }=(R1.jb.take (k+1)).map unF++R1.jb.drop (k+1) by rw [← hnx.out,show unF (jg J k)={ jg J k with tidy:=false } by unfold unF;rw [if_neg h1]]);clear hnx h1;go_wp2_with fail;go_roundw
     case rel=>exact ⟨k+1,_,by omega,by go_num,hn2,own_left⟩
     case measure=>simp [intOf];omega
   ·have d1:decide (k<R1.jb.length)=false:=decide_eq_false hlt;obtain rfl:k=R1.jb.length:=by omega
    have hJ2:=hid (show J=R1.jb.map unF by rw [hJ.out,List.take_length,List.drop_length,List.append_nil]);clear hJ;go_wp2_with fail
    go_end0
    rw [HE.out,hr.out,← HA1.out];refine ⟨rfl,rb_in (ja:=ja2) (jc:=jc2) (ra:=ra2) (rc:=rc2) (ka:=ka2) (kc:=kc2) (ea:=ea2) (ec:=ec2) J R1.ran R1.tak R1.sc hJ2.out.symm rfl rfl rfl ?_⟩;rw [show J.length=R1.jb.length by rw [hJ2.out,List.length_map]];exact own_left
theorem rEv8 (g pb:Nat) (R:Rb) (A:Au) (n:Nat) (cy co:Int) (a b v:Nat) (hN:EvNow n A R ⟨8,cy,co,a,b,v⟩) (hj:R.jb.length≤900) (hl:R.sc.length≤900) (he:EvOk ⟨8,cy,co,a,b,v⟩) (hse:0≤A.seen∧A.seen<1000000000) (c:Cf) (ta la sa qa ma:Option Addr) (tc lc sc qc mc:Nat) (w0 w:World) (F:HP) (hs:Sat w0 w (rbP g R*(rfP pb A*F))) :
  Calls Tryz.prog 26 #[.pointer (some ⟨g,0,none⟩),.pointer (some ⟨pb,0,none⟩),.agg #[.slice ta c.ts.length tc,.slice la c.ls.length lc,.int .i64 c.mutexes,.slice sa c.sems.length sc,.slice qa c.queues.length qc,.slice ma c.timers.length mc,.int .i64 c.table,.int .u32 c.mask,.int .u32 c.filter,.int .i64 c.charge,.int .u64 c.cycle,.int .u64 c.count],.agg #[.int .i64 8,.int .u64 cy,.int .u64 co,.int .u32 a,.int .u32 b,.int .u32 v]] w (RetV w0 (.tuple #[]) (rbP g (R.ev A ⟨8,cy,co,a,b,v⟩)*(rfP pb (stepA A ⟨8,cy,co,a,b,v⟩)*F))):=by
 have hea:=he.a;dsimp only at hea;have u1:IntKind.i64.wrap (a:Int)=a:=by rw [IntKind.wrap_i64];omega
 have hok1:=aok_step hN.ok he hN.ke;have Hke:=hid hN.ke;have hNx:=hid (fun (w:World) (G:HP) (h:Sat w0 w (rfP pb A*G))=>rfNext pb A ⟨8,cy,co,a,b,v⟩ w0 w G h hN.ok he hse);obtain ⟨A1,hA1⟩:∃ A1,A1=stepA A ⟨8,cy,co,a,b,v⟩:=⟨_,rfl⟩;rw [← hA1] at hok1;have hLo:=hid (fun (w:World) (G:HP) (h:Sat w0 w (rfP pb A1*G))=>rLoose pb A1 w0 w G h hok1);obtain ⟨i,hji,hil⟩:=hN.j8 (.inl rfl);dsimp only at hji;have HK:=hid (show (R.tk A ⟨8,cy,co,a,b,v⟩).kind (stepA A ⟨8,cy,co,a,b,v⟩) ⟨8,cy,co,a,b,v⟩={ R with jb:=R.jb.set i { jg R.jb i with fin:=co,ended:=true } } by rw [tk_other _ _ (by dsimp only;omega)];unfold Rb.kind;rw [if_neg (by dsimp only;omega),if_pos rfl];dsimp only;rw [hji]);have HA1:=hid hA1;obtain ⟨ja,jc,ra,rc,ka,kc,ea,ec,hs⟩:=rb_out hs;clear hok1 hA1 hN he
 go_enter Tryz.func26,Tryz.ntmps26
 go_wp2_with fail;have hJo:=hid (fun (w:World) (G:HP) (h:Sat w0 w (pts g 0 [.slice ja R.jb.length jc,.slice ra R.ran.length rc,.slice ka R.tak.length kc,.slice ea R.sc.length ec]*(recsP (.slice ja R.jb.length jc) R.jb*G)))=>rJob g (.slice ra R.ran.length rc) (.slice ka R.tak.length kc) (.slice ea R.sc.length ec) ja jc R.jb (by omega) a w0 w G h);rw [show fidx (jbI R.jb a)=(i:Int) by rw [hji];rfl] at hJo;haveI:Lt i R.jb.length:=⟨hil⟩;have ii:(i:Int)<(R.jb.length:Int):=by omega
 have di:decide (i<R.jb.length)=true:=decide_eq_true hil;obtain ⟨jg0,jo,rfl⟩:=recs_at (hs.pull (Q:=recsP (.slice ja R.jb.length jc) R.jb)) (by omega);clear hji;refine wp_gen (w0:=w0) ?_;intro wx hsx;clear hs;generalize w.heap.size=cb0 at *;refine wp_region_early (fun w'=>Sat w0 w' (pts (cb0+1) 0 [.int .i64 8,.int .u64 cy,.int .u64 co,.int .u32 a,.int .u32 b,.int .u32 v]*any)) [(0,true),(1,true),(2,true),(3,true),(4,true),(5,true),(6,true),(7,true),(8,true),(9,true),(10,true),(11,true),(12,true),(13,true),(14,true),(15,true),(16,true),(17,true),(18,true),(19,true)] (by kernel_rfl) (by kernel_rfl) (fun _ _ _ _ h=>h) own_left ?_
 iterate 20 (first | refine early_S ?_ | refine early_N ?_)
 refine early_done ?_;go_wp2_with fail;refine (hNx.out _ _ own).mono ?_;rintro en w2 ⟨rfl,hy,_⟩;have hs2:=hy Hke.out;rw [← HA1.out] at hs2;clear hy hNx;go_wp2_with fail;refine wp_gen (w0:=w0) ?_;intro wy hsy;clear hs2 hsx;refine wp_region_early (fun w'=>Sat w0 w' (pts g 0 [.slice (some ⟨jg0,jo,none⟩) R.jb.length jc,.slice ra R.ran.length rc,.slice ka R.tak.length kc,.slice ea R.sc.length ec]*(recsP (.slice (some ⟨jg0,jo,none⟩) R.jb.length jc) R.jb*any))) [(0,true),(1,true),(2,true),(3,true),(4,true),(5,true),(6,false),(7,true),(8,true)] (by kernel_rfl) (by kernel_rfl) (fun _ _ _ _ h=>h) own_left ?_
 iterate 6 (first | refine early_S ?_ | refine early_N ?_)
 refine early_G rfl (by rfl) (fun K hK=>?_);go_wp2_with fail;refine (hJo.out _ (pts (cb0+1) 0 [.int .i64 8,.int .u64 cy,.int .u64 co,.int .u32 a,.int .u32 b,.int .u32 v]*(numsP .u64 (.slice ra R.ran.length rc) R.ran*(numsP .i64 (.slice ka R.tak.length kc) R.tak*(recsP (.slice ea R.sc.length ec) R.sc*(rfP pb A1*(F*any)))))) own_left).mono ?_;rintro en w3 ⟨rfl,hs3⟩;clear hJo;go_wp2_with fail;refine ⟨own_left,?_⟩
 iterate 2 (first | refine early_S ?_ | refine early_N ?_)
 refine early_done ?_;clear hsy;go_wp2_with fail;obtain ⟨R1,hR1⟩:∃ R1:Rb,R1={ R with jb:=R.jb.set i { jg R.jb i with fin:=co,ended:=true } }:=⟨_,rfl⟩;refine (hLo.out _ (rbP g R1*(F*any)) ?_).mono ?_
 ·rw [hR1];refine Sat.perm (rb_in (g:=g) (R:={ R with jb:=R.jb.set i { jg R.jb i with fin:=co,ended:=true } }) (F:=rfP pb A1*(F*any)) (ja:=some ⟨jg0,jo,none⟩) (jc:=jc) (ra:=ra) (rc:=rc) (ka:=ka) (kc:=kc) (ea:=ea) (ec:=ec) (R.jb.set i { jg R.jb i with fin:=co,ended:=true }) R.ran (R.tak) (R.sc) rfl rfl rfl rfl ?_) (by ac_rfl);rw [List.length_set];exact own_left
 rintro en w8 ⟨rfl,hs8⟩;have hJ1:R1.jb.length≤901:=by
  have q:=kd_len R A (stepA A ⟨8,cy,co,a,b,v⟩) ⟨8,cy,co,a,b,v⟩;rw [HK.out.trans hR1.symm] at q;omega
 have HE:=hid ((show R.ev A ⟨8,cy,co,a,b,v⟩=((R.tk A ⟨8,cy,co,a,b,v⟩).kind (stepA A ⟨8,cy,co,a,b,v⟩) ⟨8,cy,co,a,b,v⟩).lo (stepA A ⟨8,cy,co,a,b,v⟩) from rfl).trans (show _=R1.lo A1 by rw [HK.out.trans hR1.symm,← HA1.out]));clear hR1 HK hLo;obtain ⟨z,hz⟩:∃ z,z=looA A1:=⟨_,rfl⟩;rw [← hz]
 cases z
 case false =>
  have hr:=hid (show R1.lo A1=R1 by unfold Rb.lo;rw [← hz];rfl);clear hz;go_wp2_with fail
  go_end0
  rw [HE.out,hr.out,← HA1.out];exact ⟨rfl,own_left⟩
 case true =>
  have hr:=hid (show R1.lo A1={ R1 with jb:=R1.jb.map unF } by unfold Rb.lo;rw [← hz];rfl);clear hz;obtain ⟨ja2,jc2,ra2,rc2,ka2,kc2,ea2,ec2,hs9⟩:=rb_out (hs8.pull (Q:=rbP g R1));clear hs8;go_wp2_with fail;refine wp_gen (w0:=w0) ?_;intro wx hsx;clear hs9
  go_loopw [12] (fun i wr=>∃ (k:Nat) (J:List Jb),k≤R1.jb.length∧i=.int .i64 k∧Hid (J=(R1.jb.take k).map unF++R1.jb.drop k)∧Sat w0 wr (pts g 0 [.slice ja2 R1.jb.length jc2,.slice ra2 R1.ran.length rc2,.slice ka2 R1.tak.length kc2,.slice ea2 R1.sc.length ec2]*(recsP (.slice ja2 R1.jb.length jc2) J*(numsP .u64 (.slice ra2 R1.ran.length rc2) R1.ran*(numsP .i64 (.slice ka2 R1.tak.length kc2) R1.tak*(recsP (.slice ea2 R1.sc.length ec2) R1.sc*(rfP pb A1*(F*any)))))))) (fun i _=>R1.jb.length-(intOf i).toNat)
  case atStart=>exact ⟨0,R1.jb,Nat.zero_le _,rfl,rfl,own_left⟩
  case round =>
   obtain ⟨k,J,hk,rfl,hJ,hsr⟩:=hrel;clear hsx
   by_cases hlt:k<R1.jb.length
   ·have d1:decide (k<R1.jb.length)=true:=decide_eq_true hlt;have i1:(k:Int)<(R1.jb.length:Int):=by omega
    have hlJ:J.length=R1.jb.length:=by rw [hJ.out];simp;omega
    haveI:Lt k J.length:=⟨by omega⟩;obtain ⟨jg0,jo,rfl⟩:=recs_at (hsr.pull (Q:=recsP (.slice ja2 R1.jb.length jc2) J)) (by omega);have hat:jg J k=jg R1.jb k:=by rw [hJ.out];exact jg_mid hlt
    have hnx:=hid (show J.set k (unF (jg J k))=(R1.jb.take (k+1)).map unF++R1.jb.drop (k+1) by rw [hat,hJ.out];exact unF_next unF hlt);clear hJ hat
    by_cases h1:(jg J k).ended=true
    ·have hn2:=hid (show J=(R1.jb.take (k+1)).map unF++R1.jb.drop (k+1) by rw [← hnx.out,show unF (jg J k)=jg J k by unfold unF;rw [if_pos h1],jg_self (by omega)]);clear hnx;go_wp2_with fail;go_roundw
     case rel=>exact ⟨k+1,J,by omega,by go_num,hn2,own_left⟩
     case measure=>simp [intOf];omega
    ·have h2:(jg J k).ended=false:=by simpa using h1
     have hn2:=hid (show J.set k { jg J k with tidy:=false }=(R1.jb.take (k+1)).map unF++R1.jb.drop (k+1) by rw [← hnx.out,show unF (jg J k)={ jg J k with tidy:=false } by unfold unF;rw [if_neg h1]]);clear hnx h1;go_wp2_with fail;go_roundw
     case rel=>exact ⟨k+1,_,by omega,by go_num,hn2,own_left⟩
     case measure=>simp [intOf];omega
   ·have d1:decide (k<R1.jb.length)=false:=decide_eq_false hlt;obtain rfl:k=R1.jb.length:=by omega
    have hJ2:=hid (show J=R1.jb.map unF by rw [hJ.out,List.take_length,List.drop_length,List.append_nil]);clear hJ;go_wp2_with fail
    go_end0
    rw [HE.out,hr.out,← HA1.out];refine ⟨rfl,rb_in (ja:=ja2) (jc:=jc2) (ra:=ra2) (rc:=rc2) (ka:=ka2) (kc:=kc2) (ea:=ea2) (ec:=ec2) J R1.ran R1.tak R1.sc hJ2.out.symm rfl rfl rfl ?_⟩;rw [show J.length=R1.jb.length by rw [hJ2.out,List.length_map]];exact own_left
theorem rEv9m (g pb:Nat) (R:Rb) (A:Au) (n:Nat) (cy co:Int) (a b v:Nat) (h32:32≤b∧b<64) (hN:EvNow n A R ⟨9,cy,co,a,b,v⟩) (hj:R.jb.length≤900) (hl:R.sc.length≤900) (he:EvOk ⟨9,cy,co,a,b,v⟩) (hse:0≤A.seen∧A.seen<1000000000) (c:Cf) (ta la sa qa ma:Option Addr) (tc lc sc qc mc:Nat) (w0 w:World) (F:HP) (hs:Sat w0 w (rbP g R*(rfP pb A*F))) :
  Calls Tryz.prog 26 #[.pointer (some ⟨g,0,none⟩),.pointer (some ⟨pb,0,none⟩),.agg #[.slice ta c.ts.length tc,.slice la c.ls.length lc,.int .i64 c.mutexes,.slice sa c.sems.length sc,.slice qa c.queues.length qc,.slice ma c.timers.length mc,.int .i64 c.table,.int .u32 c.mask,.int .u32 c.filter,.int .i64 c.charge,.int .u64 c.cycle,.int .u64 c.count],.agg #[.int .i64 9,.int .u64 cy,.int .u64 co,.int .u32 a,.int .u32 b,.int .u32 v]] w (RetV w0 (.tuple #[]) (rbP g (R.ev A ⟨9,cy,co,a,b,v⟩)*(rfP pb (stepA A ⟨9,cy,co,a,b,v⟩)*F))):=by
 have hea:=he.a;dsimp only at hea;have u1:IntKind.i64.wrap (a:Int)=a:=by rw [IntKind.wrap_i64];omega
 have hok1:=aok_step hN.ok he hN.ke;have Hke:=hid hN.ke;have hNx:=hid (fun (w:World) (G:HP) (h:Sat w0 w (rfP pb A*G))=>rfNext pb A ⟨9,cy,co,a,b,v⟩ w0 w G h hN.ok he hse);obtain ⟨A1,hA1⟩:∃ A1,A1=stepA A ⟨9,cy,co,a,b,v⟩:=⟨_,rfl⟩;rw [← hA1] at hok1;have hLo:=hid (fun (w:World) (G:HP) (h:Sat w0 w (rfP pb A1*G))=>rLoose pb A1 w0 w G h hok1);obtain ⟨i,hji,hil⟩:=hN.j8 (.inr rfl);dsimp only at hji;have hm:mtx b=true:=by unfold mtx;rw [decide_eq_true h32.1,decide_eq_true h32.2];rfl
 have i3:((b:Int)<32)=False:=eq_false (by omega);have i5:((63:Int)<(b:Int))=False:=eq_false (by omega);have HK:=hid (show (R.tk A ⟨9,cy,co,a,b,v⟩).kind (stepA A ⟨9,cy,co,a,b,v⟩) ⟨9,cy,co,a,b,v⟩=R by rw [tk_other _ _ (by dsimp only;omega)];unfold Rb.kind;rw [if_neg (by dsimp only;omega),if_neg (by dsimp only;omega),if_pos rfl];dsimp only;rw [hji];dsimp only;rw [hm];rfl);have HA1:=hid hA1;obtain ⟨ja,jc,ra,rc,ka,kc,ea,ec,hs⟩:=rb_out hs;clear hok1 hA1 hN he
 go_enter Tryz.func26,Tryz.ntmps26
 go_wp2_with fail;clear h32 hm;have hJo:=hid (fun (w:World) (G:HP) (h:Sat w0 w (pts g 0 [.slice ja R.jb.length jc,.slice ra R.ran.length rc,.slice ka R.tak.length kc,.slice ea R.sc.length ec]*(recsP (.slice ja R.jb.length jc) R.jb*G)))=>rJob g (.slice ra R.ran.length rc) (.slice ka R.tak.length kc) (.slice ea R.sc.length ec) ja jc R.jb (by omega) a w0 w G h);rw [show fidx (jbI R.jb a)=(i:Int) by rw [hji];rfl] at hJo;haveI:Lt i R.jb.length:=⟨hil⟩;have ii:(i:Int)<(R.jb.length:Int):=by omega
 have di:decide (i<R.jb.length)=true:=decide_eq_true hil;obtain ⟨jg0,jo,rfl⟩:=recs_at (hs.pull (Q:=recsP (.slice ja R.jb.length jc) R.jb)) (by omega);clear hji;refine wp_gen (w0:=w0) ?_;intro wx hsx;clear hs;generalize w.heap.size=cb0 at *;refine wp_region_early (fun w'=>Sat w0 w' (pts (cb0+1) 0 [.int .i64 9,.int .u64 cy,.int .u64 co,.int .u32 a,.int .u32 b,.int .u32 v]*any)) [(0,true),(1,true),(2,true),(3,true),(4,true),(5,true),(6,true),(7,true),(8,true),(9,true),(10,true),(11,true),(12,true),(13,true),(14,true),(15,true),(16,true),(17,true),(18,true),(19,true)] (by kernel_rfl) (by kernel_rfl) (fun _ _ _ _ h=>h) own_left ?_
 iterate 20 (first | refine early_S ?_ | refine early_N ?_)
 refine early_done ?_;go_wp2_with fail;refine (hNx.out _ _ own).mono ?_;rintro en w2 ⟨rfl,hy,_⟩;have hs2:=hy Hke.out;rw [← HA1.out] at hs2;clear hy hNx;go_wp2_with fail;refine (hJo.out _ (pts (cb0+1) 0 [.int .i64 9,.int .u64 cy,.int .u64 co,.int .u32 a,.int .u32 b,.int .u32 v]*(numsP .u64 (.slice ra R.ran.length rc) R.ran*(numsP .i64 (.slice ka R.tak.length kc) R.tak*(recsP (.slice ea R.sc.length ec) R.sc*(rfP pb A1*(F*any)))))) own_left).mono ?_;rintro en w3 ⟨rfl,hs3⟩;clear hJo hs2;go_wp2_with fail;obtain ⟨R1,hR1⟩:∃ R1:Rb,R1=R:=⟨_,rfl⟩;refine (hLo.out _ (rbP g R1*(F*any)) ?_).mono ?_
 ·rw [hR1];refine Sat.perm (rb_in (g:=g) (R:=R) (F:=rfP pb A1*(F*any)) (ja:=some ⟨jg0,jo,none⟩) (jc:=jc) (ra:=ra) (rc:=rc) (ka:=ka) (kc:=kc) (ea:=ea) (ec:=ec) (R.jb) R.ran (R.tak) (R.sc) rfl rfl rfl rfl ?_) (by ac_rfl);exact own_left
 rintro en w8 ⟨rfl,hs8⟩;have hJ1:R1.jb.length≤901:=by
  have q:=kd_len R A (stepA A ⟨9,cy,co,a,b,v⟩) ⟨9,cy,co,a,b,v⟩;rw [HK.out.trans hR1.symm] at q;omega
 have HE:=hid ((show R.ev A ⟨9,cy,co,a,b,v⟩=((R.tk A ⟨9,cy,co,a,b,v⟩).kind (stepA A ⟨9,cy,co,a,b,v⟩) ⟨9,cy,co,a,b,v⟩).lo (stepA A ⟨9,cy,co,a,b,v⟩) from rfl).trans (show _=R1.lo A1 by rw [HK.out.trans hR1.symm,← HA1.out]));clear hR1 HK hLo;obtain ⟨z,hz⟩:∃ z,z=looA A1:=⟨_,rfl⟩;rw [← hz]
 cases z
 case false =>
  have hr:=hid (show R1.lo A1=R1 by unfold Rb.lo;rw [← hz];rfl);clear hz;go_wp2_with fail
  go_end0
  rw [HE.out,hr.out,← HA1.out];exact ⟨rfl,own_left⟩
 case true =>
  have hr:=hid (show R1.lo A1={ R1 with jb:=R1.jb.map unF } by unfold Rb.lo;rw [← hz];rfl);clear hz;obtain ⟨ja2,jc2,ra2,rc2,ka2,kc2,ea2,ec2,hs9⟩:=rb_out (hs8.pull (Q:=rbP g R1));clear hs8;go_wp2_with fail;refine wp_gen (w0:=w0) ?_;intro wx hsx;clear hs9
  go_loopw [12] (fun i wr=>∃ (k:Nat) (J:List Jb),k≤R1.jb.length∧i=.int .i64 k∧Hid (J=(R1.jb.take k).map unF++R1.jb.drop k)∧Sat w0 wr (pts g 0 [.slice ja2 R1.jb.length jc2,.slice ra2 R1.ran.length rc2,.slice ka2 R1.tak.length kc2,.slice ea2 R1.sc.length ec2]*(recsP (.slice ja2 R1.jb.length jc2) J*(numsP .u64 (.slice ra2 R1.ran.length rc2) R1.ran*(numsP .i64 (.slice ka2 R1.tak.length kc2) R1.tak*(recsP (.slice ea2 R1.sc.length ec2) R1.sc*(rfP pb A1*(F*any)))))))) (fun i _=>R1.jb.length-(intOf i).toNat)
  case atStart=>exact ⟨0,R1.jb,Nat.zero_le _,rfl,rfl,own_left⟩
  case round =>
   obtain ⟨k,J,hk,rfl,hJ,hsr⟩:=hrel;clear hsx
   by_cases hlt:k<R1.jb.length
   ·have d1:decide (k<R1.jb.length)=true:=decide_eq_true hlt;have i1:(k:Int)<(R1.jb.length:Int):=by omega
    have hlJ:J.length=R1.jb.length:=by rw [hJ.out];simp;omega
    haveI:Lt k J.length:=⟨by omega⟩;obtain ⟨jg0,jo,rfl⟩:=recs_at (hsr.pull (Q:=recsP (.slice ja2 R1.jb.length jc2) J)) (by omega);have hat:jg J k=jg R1.jb k:=by rw [hJ.out];exact jg_mid hlt
    have hnx:=hid (show J.set k (unF (jg J k))=(R1.jb.take (k+1)).map unF++R1.jb.drop (k+1) by rw [hat,hJ.out];exact unF_next unF hlt);clear hJ hat
    by_cases h1:(jg J k).ended=true
    ·have hn2:=hid (show J=(R1.jb.take (k+1)).map unF++R1.jb.drop (k+1) by rw [← hnx.out,show unF (jg J k)=jg J k by unfold unF;rw [if_pos h1],jg_self (by omega)]);clear hnx;go_wp2_with fail;go_roundw
     case rel=>exact ⟨k+1,J,by omega,by go_num,hn2,own_left⟩
     case measure=>simp [intOf];omega
    ·have h2:(jg J k).ended=false:=by simpa using h1
     have hn2:=hid (show J.set k { jg J k with tidy:=false }=(R1.jb.take (k+1)).map unF++R1.jb.drop (k+1) by rw [← hnx.out,show unF (jg J k)={ jg J k with tidy:=false } by unfold unF;rw [if_neg h1]]);clear hnx h1;go_wp2_with fail;go_roundw
     case rel=>exact ⟨k+1,_,by omega,by go_num,hn2,own_left⟩
     case measure=>simp [intOf];omega
   ·have d1:decide (k<R1.jb.length)=false:=decide_eq_false hlt;obtain rfl:k=R1.jb.length:=by omega
    have hJ2:=hid (show J=R1.jb.map unF by rw [hJ.out,List.take_length,List.drop_length,List.append_nil]);clear hJ;go_wp2_with fail
    go_end0
    rw [HE.out,hr.out,← HA1.out];refine ⟨rfl,rb_in (ja:=ja2) (jc:=jc2) (ra:=ra2) (rc:=rc2) (ka:=ka2) (kc:=kc2) (ea:=ea2) (ec:=ec2) J R1.ran R1.tak R1.sc hJ2.out.symm rfl rfl rfl ?_⟩;rw [show J.length=R1.jb.length by rw [hJ2.out,List.length_map]];exact own_left
theorem rEv9a (g pb:Nat) (R:Rb) (A:Au) (n:Nat) (cy co:Int) (a b v:Nat) (h32:b<32) (hN:EvNow n A R ⟨9,cy,co,a,b,v⟩) (hj:R.jb.length≤900) (hl:R.sc.length≤900) (he:EvOk ⟨9,cy,co,a,b,v⟩) (hse:0≤A.seen∧A.seen<1000000000) (c:Cf) (ta la sa qa ma:Option Addr) (tc lc sc qc mc:Nat) (w0 w:World) (F:HP) (hs:Sat w0 w (rbP g R*(rfP pb A*F))) :
  Calls Tryz.prog 26 #[.pointer (some ⟨g,0,none⟩),.pointer (some ⟨pb,0,none⟩),.agg #[.slice ta c.ts.length tc,.slice la c.ls.length lc,.int .i64 c.mutexes,.slice sa c.sems.length sc,.slice qa c.queues.length qc,.slice ma c.timers.length mc,.int .i64 c.table,.int .u32 c.mask,.int .u32 c.filter,.int .i64 c.charge,.int .u64 c.cycle,.int .u64 c.count],.agg #[.int .i64 9,.int .u64 cy,.int .u64 co,.int .u32 a,.int .u32 b,.int .u32 v]] w (RetV w0 (.tuple #[]) (rbP g (R.ev A ⟨9,cy,co,a,b,v⟩)*(rfP pb (stepA A ⟨9,cy,co,a,b,v⟩)*F))):=by
 have hea:=he.a;dsimp only at hea;have u1:IntKind.i64.wrap (a:Int)=a:=by rw [IntKind.wrap_i64];omega
 have hok1:=aok_step hN.ok he hN.ke;have Hke:=hid hN.ke;have hNx:=hid (fun (w:World) (G:HP) (h:Sat w0 w (rfP pb A*G))=>rfNext pb A ⟨9,cy,co,a,b,v⟩ w0 w G h hN.ok he hse);obtain ⟨A1,hA1⟩:∃ A1,A1=stepA A ⟨9,cy,co,a,b,v⟩:=⟨_,rfl⟩;rw [← hA1] at hok1;have hLo:=hid (fun (w:World) (G:HP) (h:Sat w0 w (rfP pb A1*G))=>rLoose pb A1 w0 w G h hok1);obtain ⟨i,hji,hil⟩:=hN.j8 (.inr rfl);dsimp only at hji;have hm:mtx b=false:=by unfold mtx;rw [decide_eq_false (by omega),Bool.false_and]
 have i3:((b:Int)<32)=True:=eq_true (by omega);have HK:=hid (show (R.tk A ⟨9,cy,co,a,b,v⟩).kind (stepA A ⟨9,cy,co,a,b,v⟩) ⟨9,cy,co,a,b,v⟩={ R with jb:=R.jb.set i { jg R.jb i with tidy:=false } } by rw [tk_other _ _ (by dsimp only;omega)];unfold Rb.kind;rw [if_neg (by dsimp only;omega),if_neg (by dsimp only;omega),if_pos rfl];dsimp only;rw [hji];dsimp only;rw [hm];rfl);have HA1:=hid hA1;obtain ⟨ja,jc,ra,rc,ka,kc,ea,ec,hs⟩:=rb_out hs;clear hok1 hA1 hN he
 go_enter Tryz.func26,Tryz.ntmps26
 go_wp2_with fail;clear h32 hm;have hJo:=hid (fun (w:World) (G:HP) (h:Sat w0 w (pts g 0 [.slice ja R.jb.length jc,.slice ra R.ran.length rc,.slice ka R.tak.length kc,.slice ea R.sc.length ec]*(recsP (.slice ja R.jb.length jc) R.jb*G)))=>rJob g (.slice ra R.ran.length rc) (.slice ka R.tak.length kc) (.slice ea R.sc.length ec) ja jc R.jb (by omega) a w0 w G h);rw [show fidx (jbI R.jb a)=(i:Int) by rw [hji];rfl] at hJo;haveI:Lt i R.jb.length:=⟨hil⟩;have ii:(i:Int)<(R.jb.length:Int):=by omega
 have di:decide (i<R.jb.length)=true:=decide_eq_true hil;obtain ⟨jg0,jo,rfl⟩:=recs_at (hs.pull (Q:=recsP (.slice ja R.jb.length jc) R.jb)) (by omega);clear hji;refine wp_gen (w0:=w0) ?_;intro wx hsx;clear hs;generalize w.heap.size=cb0 at *;refine wp_region_early (fun w'=>Sat w0 w' (pts (cb0+1) 0 [.int .i64 9,.int .u64 cy,.int .u64 co,.int .u32 a,.int .u32 b,.int .u32 v]*any)) [(0,true),(1,true),(2,true),(3,true),(4,true),(5,true),(6,true),(7,true),(8,true),(9,true),(10,true),(11,true),(12,true),(13,true),(14,true),(15,true),(16,true),(17,true),(18,true),(19,true)] (by kernel_rfl) (by kernel_rfl) (fun _ _ _ _ h=>h) own_left ?_
 iterate 20 (first | refine early_S ?_ | refine early_N ?_)
 refine early_done ?_;go_wp2_with fail;refine (hNx.out _ _ own).mono ?_;rintro en w2 ⟨rfl,hy,_⟩;have hs2:=hy Hke.out;rw [← HA1.out] at hs2;clear hy hNx;go_wp2_with fail;refine (hJo.out _ (pts (cb0+1) 0 [.int .i64 9,.int .u64 cy,.int .u64 co,.int .u32 a,.int .u32 b,.int .u32 v]*(numsP .u64 (.slice ra R.ran.length rc) R.ran*(numsP .i64 (.slice ka R.tak.length kc) R.tak*(recsP (.slice ea R.sc.length ec) R.sc*(rfP pb A1*(F*any)))))) own_left).mono ?_;rintro en w3 ⟨rfl,hs3⟩;clear hJo hs2;go_wp2_with fail;obtain ⟨R1,hR1⟩:∃ R1:Rb,R1={ R with jb:=R.jb.set i { jg R.jb i with tidy:=false } }:=⟨_,rfl⟩;refine (hLo.out _ (rbP g R1*(F*any)) ?_).mono ?_
 ·rw [hR1];refine Sat.perm (rb_in (g:=g) (R:={ R with jb:=R.jb.set i { jg R.jb i with tidy:=false } }) (F:=rfP pb A1*(F*any)) (ja:=some ⟨jg0,jo,none⟩) (jc:=jc) (ra:=ra) (rc:=rc) (ka:=ka) (kc:=kc) (ea:=ea) (ec:=ec) (R.jb.set i { jg R.jb i with tidy:=false }) R.ran (R.tak) (R.sc) rfl rfl rfl rfl ?_) (by ac_rfl);rw [List.length_set];exact own_left
 rintro en w8 ⟨rfl,hs8⟩;have hJ1:R1.jb.length≤901:=by
  have q:=kd_len R A (stepA A ⟨9,cy,co,a,b,v⟩) ⟨9,cy,co,a,b,v⟩;rw [HK.out.trans hR1.symm] at q;omega
 have HE:=hid ((show R.ev A ⟨9,cy,co,a,b,v⟩=((R.tk A ⟨9,cy,co,a,b,v⟩).kind (stepA A ⟨9,cy,co,a,b,v⟩) ⟨9,cy,co,a,b,v⟩).lo (stepA A ⟨9,cy,co,a,b,v⟩) from rfl).trans (show _=R1.lo A1 by rw [HK.out.trans hR1.symm,← HA1.out]));clear hR1 HK hLo;obtain ⟨z,hz⟩:∃ z,z=looA A1:=⟨_,rfl⟩;rw [← hz]
 cases z
 case false =>
  have hr:=hid (show R1.lo A1=R1 by unfold Rb.lo;rw [← hz];rfl);clear hz;go_wp2_with fail
  go_end0
  rw [HE.out,hr.out,← HA1.out];exact ⟨rfl,own_left⟩
 case true =>
  have hr:=hid (show R1.lo A1={ R1 with jb:=R1.jb.map unF } by unfold Rb.lo;rw [← hz];rfl);clear hz;obtain ⟨ja2,jc2,ra2,rc2,ka2,kc2,ea2,ec2,hs9⟩:=rb_out (hs8.pull (Q:=rbP g R1));clear hs8;go_wp2_with fail;refine wp_gen (w0:=w0) ?_;intro wx hsx;clear hs9
  go_loopw [12] (fun i wr=>∃ (k:Nat) (J:List Jb),k≤R1.jb.length∧i=.int .i64 k∧Hid (J=(R1.jb.take k).map unF++R1.jb.drop k)∧Sat w0 wr (pts g 0 [.slice ja2 R1.jb.length jc2,.slice ra2 R1.ran.length rc2,.slice ka2 R1.tak.length kc2,.slice ea2 R1.sc.length ec2]*(recsP (.slice ja2 R1.jb.length jc2) J*(numsP .u64 (.slice ra2 R1.ran.length rc2) R1.ran*(numsP .i64 (.slice ka2 R1.tak.length kc2) R1.tak*(recsP (.slice ea2 R1.sc.length ec2) R1.sc*(rfP pb A1*(F*any)))))))) (fun i _=>R1.jb.length-(intOf i).toNat)
  case atStart=>exact ⟨0,R1.jb,Nat.zero_le _,rfl,rfl,own_left⟩
  case round =>
   obtain ⟨k,J,hk,rfl,hJ,hsr⟩:=hrel;clear hsx
   by_cases hlt:k<R1.jb.length
   ·have d1:decide (k<R1.jb.length)=true:=decide_eq_true hlt;have i1:(k:Int)<(R1.jb.length:Int):=by omega
    have hlJ:J.length=R1.jb.length:=by rw [hJ.out];simp;omega
    haveI:Lt k J.length:=⟨by omega⟩;obtain ⟨jg0,jo,rfl⟩:=recs_at (hsr.pull (Q:=recsP (.slice ja2 R1.jb.length jc2) J)) (by omega);have hat:jg J k=jg R1.jb k:=by rw [hJ.out];exact jg_mid hlt
    have hnx:=hid (show J.set k (unF (jg J k))=(R1.jb.take (k+1)).map unF++R1.jb.drop (k+1) by rw [hat,hJ.out];exact unF_next unF hlt);clear hJ hat
    by_cases h1:(jg J k).ended=true
    ·have hn2:=hid (show J=(R1.jb.take (k+1)).map unF++R1.jb.drop (k+1) by rw [← hnx.out,show unF (jg J k)=jg J k by unfold unF;rw [if_pos h1],jg_self (by omega)]);clear hnx;go_wp2_with fail;go_roundw
     case rel=>exact ⟨k+1,J,by omega,by go_num,hn2,own_left⟩
     case measure=>simp [intOf];omega
    ·have h2:(jg J k).ended=false:=by simpa using h1
     have hn2:=hid (show J.set k { jg J k with tidy:=false }=(R1.jb.take (k+1)).map unF++R1.jb.drop (k+1) by rw [← hnx.out,show unF (jg J k)={ jg J k with tidy:=false } by unfold unF;rw [if_neg h1]]);clear hnx h1;go_wp2_with fail;go_roundw
     case rel=>exact ⟨k+1,_,by omega,by go_num,hn2,own_left⟩
     case measure=>simp [intOf];omega
   ·have d1:decide (k<R1.jb.length)=false:=decide_eq_false hlt;obtain rfl:k=R1.jb.length:=by omega
    have hJ2:=hid (show J=R1.jb.map unF by rw [hJ.out,List.take_length,List.drop_length,List.append_nil]);clear hJ;go_wp2_with fail
    go_end0
    rw [HE.out,hr.out,← HA1.out];refine ⟨rfl,rb_in (ja:=ja2) (jc:=jc2) (ra:=ra2) (rc:=rc2) (ka:=ka2) (kc:=kc2) (ea:=ea2) (ec:=ec2) J R1.ran R1.tak R1.sc hJ2.out.symm rfl rfl rfl ?_⟩;rw [show J.length=R1.jb.length by rw [hJ2.out,List.length_map]];exact own_left
theorem rEv9b (g pb:Nat) (R:Rb) (A:Au) (n:Nat) (cy co:Int) (a b v:Nat) (h64:64≤b) (hN:EvNow n A R ⟨9,cy,co,a,b,v⟩) (hj:R.jb.length≤900) (hl:R.sc.length≤900) (he:EvOk ⟨9,cy,co,a,b,v⟩) (hse:0≤A.seen∧A.seen<1000000000) (c:Cf) (ta la sa qa ma:Option Addr) (tc lc sc qc mc:Nat) (w0 w:World) (F:HP) (hs:Sat w0 w (rbP g R*(rfP pb A*F))) :
  Calls Tryz.prog 26 #[.pointer (some ⟨g,0,none⟩),.pointer (some ⟨pb,0,none⟩),.agg #[.slice ta c.ts.length tc,.slice la c.ls.length lc,.int .i64 c.mutexes,.slice sa c.sems.length sc,.slice qa c.queues.length qc,.slice ma c.timers.length mc,.int .i64 c.table,.int .u32 c.mask,.int .u32 c.filter,.int .i64 c.charge,.int .u64 c.cycle,.int .u64 c.count],.agg #[.int .i64 9,.int .u64 cy,.int .u64 co,.int .u32 a,.int .u32 b,.int .u32 v]] w (RetV w0 (.tuple #[]) (rbP g (R.ev A ⟨9,cy,co,a,b,v⟩)*(rfP pb (stepA A ⟨9,cy,co,a,b,v⟩)*F))):=by
 have hea:=he.a;dsimp only at hea;have u1:IntKind.i64.wrap (a:Int)=a:=by rw [IntKind.wrap_i64];omega
 have hok1:=aok_step hN.ok he hN.ke;have Hke:=hid hN.ke;have hNx:=hid (fun (w:World) (G:HP) (h:Sat w0 w (rfP pb A*G))=>rfNext pb A ⟨9,cy,co,a,b,v⟩ w0 w G h hN.ok he hse);obtain ⟨A1,hA1⟩:∃ A1,A1=stepA A ⟨9,cy,co,a,b,v⟩:=⟨_,rfl⟩;rw [← hA1] at hok1;have hLo:=hid (fun (w:World) (G:HP) (h:Sat w0 w (rfP pb A1*G))=>rLoose pb A1 w0 w G h hok1);obtain ⟨i,hji,hil⟩:=hN.j8 (.inr rfl);dsimp only at hji;have hm:mtx b=false:=by unfold mtx;rw [decide_eq_false (show ¬ b<64 by omega),Bool.and_false]
 have i3:((b:Int)<32)=False:=eq_false (by omega);have i5:((63:Int)<(b:Int))=True:=eq_true (by omega);have HK:=hid (show (R.tk A ⟨9,cy,co,a,b,v⟩).kind (stepA A ⟨9,cy,co,a,b,v⟩) ⟨9,cy,co,a,b,v⟩={ R with jb:=R.jb.set i { jg R.jb i with tidy:=false } } by rw [tk_other _ _ (by dsimp only;omega)];unfold Rb.kind;rw [if_neg (by dsimp only;omega),if_neg (by dsimp only;omega),if_pos rfl];dsimp only;rw [hji];dsimp only;rw [hm];rfl);have HA1:=hid hA1;obtain ⟨ja,jc,ra,rc,ka,kc,ea,ec,hs⟩:=rb_out hs;clear hok1 hA1 hN he
 go_enter Tryz.func26,Tryz.ntmps26
 go_wp2_with fail;clear h64 hm;have hJo:=hid (fun (w:World) (G:HP) (h:Sat w0 w (pts g 0 [.slice ja R.jb.length jc,.slice ra R.ran.length rc,.slice ka R.tak.length kc,.slice ea R.sc.length ec]*(recsP (.slice ja R.jb.length jc) R.jb*G)))=>rJob g (.slice ra R.ran.length rc) (.slice ka R.tak.length kc) (.slice ea R.sc.length ec) ja jc R.jb (by omega) a w0 w G h);rw [show fidx (jbI R.jb a)=(i:Int) by rw [hji];rfl] at hJo;haveI:Lt i R.jb.length:=⟨hil⟩;have ii:(i:Int)<(R.jb.length:Int):=by omega
 have di:decide (i<R.jb.length)=true:=decide_eq_true hil;obtain ⟨jg0,jo,rfl⟩:=recs_at (hs.pull (Q:=recsP (.slice ja R.jb.length jc) R.jb)) (by omega);clear hji;refine wp_gen (w0:=w0) ?_;intro wx hsx;clear hs;generalize w.heap.size=cb0 at *;refine wp_region_early (fun w'=>Sat w0 w' (pts (cb0+1) 0 [.int .i64 9,.int .u64 cy,.int .u64 co,.int .u32 a,.int .u32 b,.int .u32 v]*any)) [(0,true),(1,true),(2,true),(3,true),(4,true),(5,true),(6,true),(7,true),(8,true),(9,true),(10,true),(11,true),(12,true),(13,true),(14,true),(15,true),(16,true),(17,true),(18,true),(19,true)] (by kernel_rfl) (by kernel_rfl) (fun _ _ _ _ h=>h) own_left ?_
 iterate 20 (first | refine early_S ?_ | refine early_N ?_)
 refine early_done ?_;go_wp2_with fail;refine (hNx.out _ _ own).mono ?_;rintro en w2 ⟨rfl,hy,_⟩;have hs2:=hy Hke.out;rw [← HA1.out] at hs2;clear hy hNx;go_wp2_with fail;refine (hJo.out _ (pts (cb0+1) 0 [.int .i64 9,.int .u64 cy,.int .u64 co,.int .u32 a,.int .u32 b,.int .u32 v]*(numsP .u64 (.slice ra R.ran.length rc) R.ran*(numsP .i64 (.slice ka R.tak.length kc) R.tak*(recsP (.slice ea R.sc.length ec) R.sc*(rfP pb A1*(F*any)))))) own_left).mono ?_;rintro en w3 ⟨rfl,hs3⟩;clear hJo hs2;go_wp2_with fail;obtain ⟨R1,hR1⟩:∃ R1:Rb,R1={ R with jb:=R.jb.set i { jg R.jb i with tidy:=false } }:=⟨_,rfl⟩;refine (hLo.out _ (rbP g R1*(F*any)) ?_).mono ?_
 ·rw [hR1];refine Sat.perm (rb_in (g:=g) (R:={ R with jb:=R.jb.set i { jg R.jb i with tidy:=false } }) (F:=rfP pb A1*(F*any)) (ja:=some ⟨jg0,jo,none⟩) (jc:=jc) (ra:=ra) (rc:=rc) (ka:=ka) (kc:=kc) (ea:=ea) (ec:=ec) (R.jb.set i { jg R.jb i with tidy:=false }) R.ran (R.tak) (R.sc) rfl rfl rfl rfl ?_) (by ac_rfl);rw [List.length_set];exact own_left
 rintro en w8 ⟨rfl,hs8⟩;have hJ1:R1.jb.length≤901:=by
  have q:=kd_len R A (stepA A ⟨9,cy,co,a,b,v⟩) ⟨9,cy,co,a,b,v⟩;rw [HK.out.trans hR1.symm] at q;omega
 have HE:=hid ((show R.ev A ⟨9,cy,co,a,b,v⟩=((R.tk A ⟨9,cy,co,a,b,v⟩).kind (stepA A ⟨9,cy,co,a,b,v⟩) ⟨9,cy,co,a,b,v⟩).lo (stepA A ⟨9,cy,co,a,b,v⟩) from rfl).trans (show _=R1.lo A1 by rw [HK.out.trans hR1.symm,← HA1.out]));clear hR1 HK hLo;obtain ⟨z,hz⟩:∃ z,z=looA A1:=⟨_,rfl⟩;rw [← hz]
 cases z
 case false =>
  have hr:=hid (show R1.lo A1=R1 by unfold Rb.lo;rw [← hz];rfl);clear hz;go_wp2_with fail
  go_end0
  rw [HE.out,hr.out,← HA1.out];exact ⟨rfl,own_left⟩
 case true =>
  have hr:=hid (show R1.lo A1={ R1 with jb:=R1.jb.map unF } by unfold Rb.lo;rw [← hz];rfl);clear hz;obtain ⟨ja2,jc2,ra2,rc2,ka2,kc2,ea2,ec2,hs9⟩:=rb_out (hs8.pull (Q:=rbP g R1));clear hs8;go_wp2_with fail;refine wp_gen (w0:=w0) ?_;intro wx hsx;clear hs9
  go_loopw [12] (fun i wr=>∃ (k:Nat) (J:List Jb),k≤R1.jb.length∧i=.int .i64 k∧Hid (J=(R1.jb.take k).map unF++R1.jb.drop k)∧Sat w0 wr (pts g 0 [.slice ja2 R1.jb.length jc2,.slice ra2 R1.ran.length rc2,.slice ka2 R1.tak.length kc2,.slice ea2 R1.sc.length ec2]*(recsP (.slice ja2 R1.jb.length jc2) J*(numsP .u64 (.slice ra2 R1.ran.length rc2) R1.ran*(numsP .i64 (.slice ka2 R1.tak.length kc2) R1.tak*(recsP (.slice ea2 R1.sc.length ec2) R1.sc*(rfP pb A1*(F*any)))))))) (fun i _=>R1.jb.length-(intOf i).toNat)
  case atStart=>exact ⟨0,R1.jb,Nat.zero_le _,rfl,rfl,own_left⟩
  case round =>
   obtain ⟨k,J,hk,rfl,hJ,hsr⟩:=hrel;clear hsx
   by_cases hlt:k<R1.jb.length
   ·have d1:decide (k<R1.jb.length)=true:=decide_eq_true hlt;have i1:(k:Int)<(R1.jb.length:Int):=by omega
    have hlJ:J.length=R1.jb.length:=by rw [hJ.out];simp;omega
    haveI:Lt k J.length:=⟨by omega⟩;obtain ⟨jg0,jo,rfl⟩:=recs_at (hsr.pull (Q:=recsP (.slice ja2 R1.jb.length jc2) J)) (by omega);have hat:jg J k=jg R1.jb k:=by rw [hJ.out];exact jg_mid hlt
    have hnx:=hid (show J.set k (unF (jg J k))=(R1.jb.take (k+1)).map unF++R1.jb.drop (k+1) by rw [hat,hJ.out];exact unF_next unF hlt);clear hJ hat
    by_cases h1:(jg J k).ended=true
    ·have hn2:=hid (show J=(R1.jb.take (k+1)).map unF++R1.jb.drop (k+1) by rw [← hnx.out,show unF (jg J k)=jg J k by unfold unF;rw [if_pos h1],jg_self (by omega)]);clear hnx;go_wp2_with fail;go_roundw
     case rel=>exact ⟨k+1,J,by omega,by go_num,hn2,own_left⟩
     case measure=>simp [intOf];omega
    ·have h2:(jg J k).ended=false:=by simpa using h1
     have hn2:=hid (show J.set k { jg J k with tidy:=false }=(R1.jb.take (k+1)).map unF++R1.jb.drop (k+1) by rw [← hnx.out,show unF (jg J k)={ jg J k with tidy:=false } by unfold unF;rw [if_neg h1]]);clear hnx h1;go_wp2_with fail;go_roundw
     case rel=>exact ⟨k+1,_,by omega,by go_num,hn2,own_left⟩
     case measure=>simp [intOf];omega
   ·have d1:decide (k<R1.jb.length)=false:=decide_eq_false hlt;obtain rfl:k=R1.jb.length:=by omega
    have hJ2:=hid (show J=R1.jb.map unF by rw [hJ.out,List.take_length,List.drop_length,List.append_nil]);clear hJ;go_wp2_with fail
    go_end0
    rw [HE.out,hr.out,← HA1.out];refine ⟨rfl,rb_in (ja:=ja2) (jc:=jc2) (ra:=ra2) (rc:=rc2) (ka:=ka2) (kc:=kc2) (ea:=ea2) (ec:=ec2) J R1.ran R1.tak R1.sc hJ2.out.symm rfl rfl rfl ?_⟩;rw [show J.length=R1.jb.length by rw [hJ2.out,List.length_map]];exact own_left
theorem rEv12a (g pb:Nat) (R:Rb) (A:Au) (n:Nat) (cy co:Int) (a b v:Nat) (hc:cntO (stepA A ⟨12,cy,co,a,b,v⟩) a=1) (hN:EvNow n A R ⟨12,cy,co,a,b,v⟩) (hj:R.jb.length≤900) (hl:R.sc.length≤900) (he:EvOk ⟨12,cy,co,a,b,v⟩) (hse:0≤A.seen∧A.seen<1000000000) (c:Cf) (ta la sa qa ma:Option Addr) (tc lc sc qc mc:Nat) (w0 w:World) (F:HP) (hs:Sat w0 w (rbP g R*(rfP pb A*F))) :
  Calls Tryz.prog 26 #[.pointer (some ⟨g,0,none⟩),.pointer (some ⟨pb,0,none⟩),.agg #[.slice ta c.ts.length tc,.slice la c.ls.length lc,.int .i64 c.mutexes,.slice sa c.sems.length sc,.slice qa c.queues.length qc,.slice ma c.timers.length mc,.int .i64 c.table,.int .u32 c.mask,.int .u32 c.filter,.int .i64 c.charge,.int .u64 c.cycle,.int .u64 c.count],.agg #[.int .i64 12,.int .u64 cy,.int .u64 co,.int .u32 a,.int .u32 b,.int .u32 v]] w (RetV w0 (.tuple #[]) (rbP g (R.ev A ⟨12,cy,co,a,b,v⟩)*(rfP pb (stepA A ⟨12,cy,co,a,b,v⟩)*F))):=by
 have hea:=he.a;dsimp only at hea;have u1:IntKind.i64.wrap (a:Int)=a:=by rw [IntKind.wrap_i64];omega
 have hok1:=aok_step hN.ok he hN.ke;have Hke:=hid hN.ke;have hNx:=hid (fun (w:World) (G:HP) (h:Sat w0 w (rfP pb A*G))=>rfNext pb A ⟨12,cy,co,a,b,v⟩ w0 w G h hN.ok he hse);obtain ⟨A1,hA1⟩:∃ A1,A1=stepA A ⟨12,cy,co,a,b,v⟩:=⟨_,rfl⟩;rw [← hA1] at hok1;have hLo:=hid (fun (w:World) (G:HP) (h:Sat w0 w (rfP pb A1*G))=>rLoose pb A1 w0 w G h hok1);have ha64:a<64:=by have:=hN.inn.a (by dsimp only;omega);have:=hN.n64;dsimp only at *;omega
 have hOw:=hid (fun (w:World) (G:HP) (h:Sat w0 w (rfP pb A1*G))=>rOwns pb A1 a ha64 w0 w G h hok1);rw [← hA1] at hc;have ec1:((cntO A1 a:Int)==1)=true:=by rw [beq_iff_eq];omega
 have HK:=hid (show (R.tk A ⟨12,cy,co,a,b,v⟩).kind (stepA A ⟨12,cy,co,a,b,v⟩) ⟨12,cy,co,a,b,v⟩={ R with sc:=R.sc++[⟨a,0,true⟩] } by rw [tk_other _ _ (by dsimp only;omega)];unfold Rb.kind;rw [if_neg (by dsimp only;omega),if_neg (by dsimp only;omega),if_neg (by dsimp only;omega),if_pos rfl];dsimp only;rw [← hA1];rw [if_pos hc]);have HA1:=hid hA1;obtain ⟨ja,jc,ra,rc,ka,kc,ea,ec,hs⟩:=rb_out hs;clear hok1 hA1 hN he
 go_enter Tryz.func26,Tryz.ntmps26
 go_wp2_with fail;clear hc;refine wp_gen (w0:=w0) ?_;intro wx hsx;clear hs;generalize w.heap.size=cb0 at *;refine wp_region_early (fun w'=>Sat w0 w' (pts (cb0+1) 0 [.int .i64 12,.int .u64 cy,.int .u64 co,.int .u32 a,.int .u32 b,.int .u32 v]*any)) [(0,true),(1,true),(2,true),(3,true),(4,true),(5,true),(6,true),(7,true),(8,true),(9,true),(10,true),(11,true),(12,true),(13,true),(14,true),(15,true),(16,true),(17,true),(18,true),(19,true)] (by kernel_rfl) (by kernel_rfl) (fun _ _ _ _ h=>h) own_left ?_
 iterate 20 (first | refine early_S ?_ | refine early_N ?_)
 refine early_done ?_;go_wp2_with fail;refine (hNx.out _ _ own).mono ?_;rintro en w2 ⟨rfl,hy,_⟩;have hs2:=hy Hke.out;rw [← HA1.out] at hs2;clear hy hNx;go_wp2_with fail;refine (hOw.out _ _ own).mono ?_;rintro en w3 ⟨rfl,hs3⟩;clear hOw hs2;go_wp2_with (at_builtin;refine wpList_append_recs rfl rfl rfl rfl (by omega) ?_;intro ap ac aL aw ahL ah1 ah2 ahs _);unfold Hid at ahL;subst ahL;go_wp2_with fail;obtain ⟨R1,hR1⟩:∃ R1:Rb,R1={ R with sc:=R.sc++[⟨a,0,true⟩] }:=⟨_,rfl⟩;refine (hLo.out _ (rbP g R1*(F*any)) ?_).mono ?_
 ·rw [hR1];refine Sat.perm (rb_in (g:=g) (R:={ R with sc:=R.sc++[⟨a,0,true⟩] }) (F:=rfP pb A1*(F*any)) (ja:=ja) (jc:=jc) (ra:=ra) (rc:=rc) (ka:=ka) (kc:=kc) (ea:=ap) (ec:=ac) (R.jb) R.ran (R.tak) (R.sc++[⟨a,0,true⟩]) rfl rfl rfl rfl ?_) (by ac_rfl);exact own_left
 rintro en w8 ⟨rfl,hs8⟩;have hJ1:R1.jb.length≤901:=by
  have q:=kd_len R A (stepA A ⟨12,cy,co,a,b,v⟩) ⟨12,cy,co,a,b,v⟩;rw [HK.out.trans hR1.symm] at q;omega
 have HE:=hid ((show R.ev A ⟨12,cy,co,a,b,v⟩=((R.tk A ⟨12,cy,co,a,b,v⟩).kind (stepA A ⟨12,cy,co,a,b,v⟩) ⟨12,cy,co,a,b,v⟩).lo (stepA A ⟨12,cy,co,a,b,v⟩) from rfl).trans (show _=R1.lo A1 by rw [HK.out.trans hR1.symm,← HA1.out]));clear hR1 HK hLo;obtain ⟨z,hz⟩:∃ z,z=looA A1:=⟨_,rfl⟩;rw [← hz]
 cases z
 case false =>
  have hr:=hid (show R1.lo A1=R1 by unfold Rb.lo;rw [← hz];rfl);clear hz;go_wp2_with fail
  go_end0
  rw [HE.out,hr.out,← HA1.out];exact ⟨rfl,own_left⟩
 case true =>
  have hr:=hid (show R1.lo A1={ R1 with jb:=R1.jb.map unF } by unfold Rb.lo;rw [← hz];rfl);clear hz;obtain ⟨ja2,jc2,ra2,rc2,ka2,kc2,ea2,ec2,hs9⟩:=rb_out (hs8.pull (Q:=rbP g R1));clear hs8;go_wp2_with fail;refine wp_gen (w0:=w0) ?_;intro wx hsx;clear hs9
  go_loopw [12] (fun i wr=>∃ (k:Nat) (J:List Jb),k≤R1.jb.length∧i=.int .i64 k∧Hid (J=(R1.jb.take k).map unF++R1.jb.drop k)∧Sat w0 wr (pts g 0 [.slice ja2 R1.jb.length jc2,.slice ra2 R1.ran.length rc2,.slice ka2 R1.tak.length kc2,.slice ea2 R1.sc.length ec2]*(recsP (.slice ja2 R1.jb.length jc2) J*(numsP .u64 (.slice ra2 R1.ran.length rc2) R1.ran*(numsP .i64 (.slice ka2 R1.tak.length kc2) R1.tak*(recsP (.slice ea2 R1.sc.length ec2) R1.sc*(rfP pb A1*(F*any)))))))) (fun i _=>R1.jb.length-(intOf i).toNat)
  case atStart=>exact ⟨0,R1.jb,Nat.zero_le _,rfl,rfl,own_left⟩
  case round =>
   obtain ⟨k,J,hk,rfl,hJ,hsr⟩:=hrel;clear hsx
   by_cases hlt:k<R1.jb.length
   ·have d1:decide (k<R1.jb.length)=true:=decide_eq_true hlt;have i1:(k:Int)<(R1.jb.length:Int):=by omega
    have hlJ:J.length=R1.jb.length:=by rw [hJ.out];simp;omega
    haveI:Lt k J.length:=⟨by omega⟩;obtain ⟨jg0,jo,rfl⟩:=recs_at (hsr.pull (Q:=recsP (.slice ja2 R1.jb.length jc2) J)) (by omega);have hat:jg J k=jg R1.jb k:=by rw [hJ.out];exact jg_mid hlt
    have hnx:=hid (show J.set k (unF (jg J k))=(R1.jb.take (k+1)).map unF++R1.jb.drop (k+1) by rw [hat,hJ.out];exact unF_next unF hlt);clear hJ hat
    by_cases h1:(jg J k).ended=true
    ·have hn2:=hid (show J=(R1.jb.take (k+1)).map unF++R1.jb.drop (k+1) by rw [← hnx.out,show unF (jg J k)=jg J k by unfold unF;rw [if_pos h1],jg_self (by omega)]);clear hnx;go_wp2_with fail;go_roundw
     case rel=>exact ⟨k+1,J,by omega,by go_num,hn2,own_left⟩
     case measure=>simp [intOf];omega
    ·have h2:(jg J k).ended=false:=by simpa using h1
     have hn2:=hid (show J.set k { jg J k with tidy:=false }=(R1.jb.take (k+1)).map unF++R1.jb.drop (k+1) by rw [← hnx.out,show unF (jg J k)={ jg J k with tidy:=false } by unfold unF;rw [if_neg h1]]);clear hnx h1;go_wp2_with fail;go_roundw
     case rel=>exact ⟨k+1,_,by omega,by go_num,hn2,own_left⟩
     case measure=>simp [intOf];omega
   ·have d1:decide (k<R1.jb.length)=false:=decide_eq_false hlt;obtain rfl:k=R1.jb.length:=by omega
    have hJ2:=hid (show J=R1.jb.map unF by rw [hJ.out,List.take_length,List.drop_length,List.append_nil]);clear hJ;go_wp2_with fail
    go_end0
    rw [HE.out,hr.out,← HA1.out];refine ⟨rfl,rb_in (ja:=ja2) (jc:=jc2) (ra:=ra2) (rc:=rc2) (ka:=ka2) (kc:=kc2) (ea:=ea2) (ec:=ec2) J R1.ran R1.tak R1.sc hJ2.out.symm rfl rfl rfl ?_⟩;rw [show J.length=R1.jb.length by rw [hJ2.out,List.length_map]];exact own_left
theorem rEv12b (g pb:Nat) (R:Rb) (A:Au) (n:Nat) (cy co:Int) (a b v:Nat) (hc:cntO (stepA A ⟨12,cy,co,a,b,v⟩) a≠1) (hN:EvNow n A R ⟨12,cy,co,a,b,v⟩) (hj:R.jb.length≤900) (hl:R.sc.length≤900) (he:EvOk ⟨12,cy,co,a,b,v⟩) (hse:0≤A.seen∧A.seen<1000000000) (c:Cf) (ta la sa qa ma:Option Addr) (tc lc sc qc mc:Nat) (w0 w:World) (F:HP) (hs:Sat w0 w (rbP g R*(rfP pb A*F))) :
  Calls Tryz.prog 26 #[.pointer (some ⟨g,0,none⟩),.pointer (some ⟨pb,0,none⟩),.agg #[.slice ta c.ts.length tc,.slice la c.ls.length lc,.int .i64 c.mutexes,.slice sa c.sems.length sc,.slice qa c.queues.length qc,.slice ma c.timers.length mc,.int .i64 c.table,.int .u32 c.mask,.int .u32 c.filter,.int .i64 c.charge,.int .u64 c.cycle,.int .u64 c.count],.agg #[.int .i64 12,.int .u64 cy,.int .u64 co,.int .u32 a,.int .u32 b,.int .u32 v]] w (RetV w0 (.tuple #[]) (rbP g (R.ev A ⟨12,cy,co,a,b,v⟩)*(rfP pb (stepA A ⟨12,cy,co,a,b,v⟩)*F))):=by
 have hea:=he.a;dsimp only at hea;have u1:IntKind.i64.wrap (a:Int)=a:=by rw [IntKind.wrap_i64];omega
 have hok1:=aok_step hN.ok he hN.ke;have Hke:=hid hN.ke;have hNx:=hid (fun (w:World) (G:HP) (h:Sat w0 w (rfP pb A*G))=>rfNext pb A ⟨12,cy,co,a,b,v⟩ w0 w G h hN.ok he hse);obtain ⟨A1,hA1⟩:∃ A1,A1=stepA A ⟨12,cy,co,a,b,v⟩:=⟨_,rfl⟩;rw [← hA1] at hok1;have hLo:=hid (fun (w:World) (G:HP) (h:Sat w0 w (rfP pb A1*G))=>rLoose pb A1 w0 w G h hok1);have ha64:a<64:=by have:=hN.inn.a (by dsimp only;omega);have:=hN.n64;dsimp only at *;omega
 have hOw:=hid (fun (w:World) (G:HP) (h:Sat w0 w (rfP pb A1*G))=>rOwns pb A1 a ha64 w0 w G h hok1);rw [← hA1] at hc;have ec1:((cntO A1 a:Int)==1)=false:=by rw [beq_eq_false_iff_ne];omega
 have HK:=hid (show (R.tk A ⟨12,cy,co,a,b,v⟩).kind (stepA A ⟨12,cy,co,a,b,v⟩) ⟨12,cy,co,a,b,v⟩=R by rw [tk_other _ _ (by dsimp only;omega)];unfold Rb.kind;rw [if_neg (by dsimp only;omega),if_neg (by dsimp only;omega),if_neg (by dsimp only;omega),if_pos rfl];dsimp only;rw [← hA1];rw [if_neg hc]);have HA1:=hid hA1;obtain ⟨ja,jc,ra,rc,ka,kc,ea,ec,hs⟩:=rb_out hs;clear hok1 hA1 hN he
 go_enter Tryz.func26,Tryz.ntmps26
 go_wp2_with fail;clear hc;refine wp_gen (w0:=w0) ?_;intro wx hsx;clear hs;generalize w.heap.size=cb0 at *;refine wp_region_early (fun w'=>Sat w0 w' (pts (cb0+1) 0 [.int .i64 12,.int .u64 cy,.int .u64 co,.int .u32 a,.int .u32 b,.int .u32 v]*any)) [(0,true),(1,true),(2,true),(3,true),(4,true),(5,true),(6,true),(7,true),(8,true),(9,true),(10,true),(11,true),(12,true),(13,true),(14,true),(15,true),(16,true),(17,true),(18,true),(19,true)] (by kernel_rfl) (by kernel_rfl) (fun _ _ _ _ h=>h) own_left ?_
 iterate 20 (first | refine early_S ?_ | refine early_N ?_)
 refine early_done ?_;go_wp2_with fail;refine (hNx.out _ _ own).mono ?_;rintro en w2 ⟨rfl,hy,_⟩;have hs2:=hy Hke.out;rw [← HA1.out] at hs2;clear hy hNx;go_wp2_with fail;refine (hOw.out _ _ own).mono ?_;rintro en w3 ⟨rfl,hs3⟩;clear hOw hs2;go_wp2_with fail;obtain ⟨R1,hR1⟩:∃ R1:Rb,R1=R:=⟨_,rfl⟩;refine (hLo.out _ (rbP g R1*(F*any)) ?_).mono ?_
 ·rw [hR1];refine Sat.perm (rb_in (g:=g) (R:=R) (F:=rfP pb A1*(F*any)) (ja:=ja) (jc:=jc) (ra:=ra) (rc:=rc) (ka:=ka) (kc:=kc) (ea:=ea) (ec:=ec) (R.jb) R.ran (R.tak) (R.sc) rfl rfl rfl rfl ?_) (by ac_rfl);exact own_left
 rintro en w8 ⟨rfl,hs8⟩;have hJ1:R1.jb.length≤901:=by
  have q:=kd_len R A (stepA A ⟨12,cy,co,a,b,v⟩) ⟨12,cy,co,a,b,v⟩;rw [HK.out.trans hR1.symm] at q;omega
 have HE:=hid ((show R.ev A ⟨12,cy,co,a,b,v⟩=((R.tk A ⟨12,cy,co,a,b,v⟩).kind (stepA A ⟨12,cy,co,a,b,v⟩) ⟨12,cy,co,a,b,v⟩).lo (stepA A ⟨12,cy,co,a,b,v⟩) from rfl).trans (show _=R1.lo A1 by rw [HK.out.trans hR1.symm,← HA1.out]));clear hR1 HK hLo;obtain ⟨z,hz⟩:∃ z,z=looA A1:=⟨_,rfl⟩;rw [← hz]
 cases z
 case false =>
  have hr:=hid (show R1.lo A1=R1 by unfold Rb.lo;rw [← hz];rfl);clear hz;go_wp2_with fail
  go_end0
  rw [HE.out,hr.out,← HA1.out];exact ⟨rfl,own_left⟩
 case true =>
  have hr:=hid (show R1.lo A1={ R1 with jb:=R1.jb.map unF } by unfold Rb.lo;rw [← hz];rfl);clear hz;obtain ⟨ja2,jc2,ra2,rc2,ka2,kc2,ea2,ec2,hs9⟩:=rb_out (hs8.pull (Q:=rbP g R1));clear hs8;go_wp2_with fail;refine wp_gen (w0:=w0) ?_;intro wx hsx;clear hs9
  go_loopw [12] (fun i wr=>∃ (k:Nat) (J:List Jb),k≤R1.jb.length∧i=.int .i64 k∧Hid (J=(R1.jb.take k).map unF++R1.jb.drop k)∧Sat w0 wr (pts g 0 [.slice ja2 R1.jb.length jc2,.slice ra2 R1.ran.length rc2,.slice ka2 R1.tak.length kc2,.slice ea2 R1.sc.length ec2]*(recsP (.slice ja2 R1.jb.length jc2) J*(numsP .u64 (.slice ra2 R1.ran.length rc2) R1.ran*(numsP .i64 (.slice ka2 R1.tak.length kc2) R1.tak*(recsP (.slice ea2 R1.sc.length ec2) R1.sc*(rfP pb A1*(F*any)))))))) (fun i _=>R1.jb.length-(intOf i).toNat)
  case atStart=>exact ⟨0,R1.jb,Nat.zero_le _,rfl,rfl,own_left⟩
  case round =>
   obtain ⟨k,J,hk,rfl,hJ,hsr⟩:=hrel;clear hsx
   by_cases hlt:k<R1.jb.length
   ·have d1:decide (k<R1.jb.length)=true:=decide_eq_true hlt;have i1:(k:Int)<(R1.jb.length:Int):=by omega
    have hlJ:J.length=R1.jb.length:=by rw [hJ.out];simp;omega
    haveI:Lt k J.length:=⟨by omega⟩;obtain ⟨jg0,jo,rfl⟩:=recs_at (hsr.pull (Q:=recsP (.slice ja2 R1.jb.length jc2) J)) (by omega);have hat:jg J k=jg R1.jb k:=by rw [hJ.out];exact jg_mid hlt
    have hnx:=hid (show J.set k (unF (jg J k))=(R1.jb.take (k+1)).map unF++R1.jb.drop (k+1) by rw [hat,hJ.out];exact unF_next unF hlt);clear hJ hat
    by_cases h1:(jg J k).ended=true
    ·have hn2:=hid (show J=(R1.jb.take (k+1)).map unF++R1.jb.drop (k+1) by rw [← hnx.out,show unF (jg J k)=jg J k by unfold unF;rw [if_pos h1],jg_self (by omega)]);clear hnx;go_wp2_with fail;go_roundw
     case rel=>exact ⟨k+1,J,by omega,by go_num,hn2,own_left⟩
     case measure=>simp [intOf];omega
    ·have h2:(jg J k).ended=false:=by simpa using h1
     have hn2:=hid (show J.set k { jg J k with tidy:=false }=(R1.jb.take (k+1)).map unF++R1.jb.drop (k+1) by rw [← hnx.out,show unF (jg J k)={ jg J k with tidy:=false } by unfold unF;rw [if_neg h1]]);clear hnx h1;go_wp2_with fail;go_roundw
     case rel=>exact ⟨k+1,_,by omega,by go_num,hn2,own_left⟩
     case measure=>simp [intOf];omega
   ·have d1:decide (k<R1.jb.length)=false:=decide_eq_false hlt;obtain rfl:k=R1.jb.length:=by omega
    have hJ2:=hid (show J=R1.jb.map unF by rw [hJ.out,List.take_length,List.drop_length,List.append_nil]);clear hJ;go_wp2_with fail
    go_end0
    rw [HE.out,hr.out,← HA1.out];refine ⟨rfl,rb_in (ja:=ja2) (jc:=jc2) (ra:=ra2) (rc:=rc2) (ka:=ka2) (kc:=kc2) (ea:=ea2) (ec:=ec2) J R1.ran R1.tak R1.sc hJ2.out.symm rfl rfl rfl ?_⟩;rw [show J.length=R1.jb.length by rw [hJ2.out,List.length_map]];exact own_left
theorem rEv13a (g pb:Nat) (R:Rb) (A:Au) (n:Nat) (cy co:Int) (a b v:Nat) (hc:cntO (stepA A ⟨13,cy,co,a,b,v⟩) a=0) (hN:EvNow n A R ⟨13,cy,co,a,b,v⟩) (hj:R.jb.length≤900) (hl:R.sc.length≤900) (he:EvOk ⟨13,cy,co,a,b,v⟩) (hse:0≤A.seen∧A.seen<1000000000) (c:Cf) (ta la sa qa ma:Option Addr) (tc lc sc qc mc:Nat) (w0 w:World) (F:HP) (hs:Sat w0 w (rbP g R*(rfP pb A*F))) :
  Calls Tryz.prog 26 #[.pointer (some ⟨g,0,none⟩),.pointer (some ⟨pb,0,none⟩),.agg #[.slice ta c.ts.length tc,.slice la c.ls.length lc,.int .i64 c.mutexes,.slice sa c.sems.length sc,.slice qa c.queues.length qc,.slice ma c.timers.length mc,.int .i64 c.table,.int .u32 c.mask,.int .u32 c.filter,.int .i64 c.charge,.int .u64 c.cycle,.int .u64 c.count],.agg #[.int .i64 13,.int .u64 cy,.int .u64 co,.int .u32 a,.int .u32 b,.int .u32 v]] w (RetV w0 (.tuple #[]) (rbP g (R.ev A ⟨13,cy,co,a,b,v⟩)*(rfP pb (stepA A ⟨13,cy,co,a,b,v⟩)*F))):=by
 have hea:=he.a;dsimp only at hea;have u1:IntKind.i64.wrap (a:Int)=a:=by rw [IntKind.wrap_i64];omega
 have hok1:=aok_step hN.ok he hN.ke;have Hke:=hid hN.ke;have hNx:=hid (fun (w:World) (G:HP) (h:Sat w0 w (rfP pb A*G))=>rfNext pb A ⟨13,cy,co,a,b,v⟩ w0 w G h hN.ok he hse);obtain ⟨A1,hA1⟩:∃ A1,A1=stepA A ⟨13,cy,co,a,b,v⟩:=⟨_,rfl⟩;rw [← hA1] at hok1;have hLo:=hid (fun (w:World) (G:HP) (h:Sat w0 w (rfP pb A1*G))=>rLoose pb A1 w0 w G h hok1);have ha64:a<64:=by have:=hN.inn.a (by dsimp only;omega);have:=hN.n64;dsimp only at *;omega
 have hOw:=hid (fun (w:World) (G:HP) (h:Sat w0 w (rfP pb A1*G))=>rOwns pb A1 a ha64 w0 w G h hok1);obtain ⟨i,hji,hil⟩:=hN.j13 rfl;dsimp only at hji;rw [← hA1] at hc;have ec1:((cntO A1 a:Int)==0)=true:=by rw [beq_iff_eq];omega
 have HK:=hid (show (R.tk A ⟨13,cy,co,a,b,v⟩).kind (stepA A ⟨13,cy,co,a,b,v⟩) ⟨13,cy,co,a,b,v⟩={ R with sc:=R.sc.set i { scg R.sc i with op:=false } } by rw [tk_other _ _ (by dsimp only;omega)];unfold Rb.kind;rw [if_neg (by dsimp only;omega),if_neg (by dsimp only;omega),if_neg (by dsimp only;omega),if_neg (by dsimp only;omega),if_pos rfl];dsimp only;rw [hji,← hA1];dsimp only;rw [if_pos hc]);have HA1:=hid hA1;obtain ⟨ja,jc,ra,rc,ka,kc,ea,ec,hs⟩:=rb_out hs;clear hok1 hA1 hN he
 go_enter Tryz.func26,Tryz.ntmps26
 go_wp2_with fail;clear hc;have hOp:=hid (fun (w:World) (G:HP) (h:Sat w0 w (pts g 0 [.slice ja R.jb.length jc,.slice ra R.ran.length rc,.slice ka R.tak.length kc,.slice ea R.sc.length ec]*(recsP (.slice ea R.sc.length ec) R.sc*G)))=>rOpen g (.slice ja R.jb.length jc) (.slice ra R.ran.length rc) (.slice ka R.tak.length kc) ea ec R.sc (by omega) a w0 w G h);rw [show fidx (opI R.sc a)=(i:Int) by rw [hji];rfl] at hOp;haveI:Lt i R.sc.length:=⟨hil⟩;have ii:(i:Int)<(R.sc.length:Int):=by omega
 have di:decide (i<R.sc.length)=true:=decide_eq_true hil;obtain ⟨eg0,eo,rfl⟩:=recs_at (hs.pull (Q:=recsP (.slice ea R.sc.length ec) R.sc)) (by omega);clear hji;refine wp_gen (w0:=w0) ?_;intro wx hsx;clear hs;generalize w.heap.size=cb0 at *;refine wp_region_early (fun w'=>Sat w0 w' (pts (cb0+1) 0 [.int .i64 13,.int .u64 cy,.int .u64 co,.int .u32 a,.int .u32 b,.int .u32 v]*any)) [(0,true),(1,true),(2,true),(3,true),(4,true),(5,true),(6,true),(7,true),(8,true),(9,true),(10,true),(11,true),(12,true),(13,true),(14,true),(15,true),(16,true),(17,true),(18,true),(19,true)] (by kernel_rfl) (by kernel_rfl) (fun _ _ _ _ h=>h) own_left ?_
 iterate 20 (first | refine early_S ?_ | refine early_N ?_)
 refine early_done ?_;go_wp2_with fail;refine (hNx.out _ _ own).mono ?_;rintro en w2 ⟨rfl,hy,_⟩;have hs2:=hy Hke.out;rw [← HA1.out] at hs2;clear hy hNx;go_wp2_with fail;refine (hOp.out _ (recsP (.slice ja R.jb.length jc) R.jb*(numsP .u64 (.slice ra R.ran.length rc) R.ran*(numsP .i64 (.slice ka R.tak.length kc) R.tak*(rfP pb A1*(F*any))))) own_left).mono ?_;rintro en w3 ⟨rfl,hs3⟩;clear hOp hs2;go_wp2_with fail;refine (hOw.out _ _ own).mono ?_;rintro en w4 ⟨rfl,hs4⟩;clear hOw hs3;go_wp2_with fail;obtain ⟨R1,hR1⟩:∃ R1:Rb,R1={ R with sc:=R.sc.set i { scg R.sc i with op:=false } }:=⟨_,rfl⟩;refine (hLo.out _ (rbP g R1*(F*any)) ?_).mono ?_
 ·rw [hR1];refine Sat.perm (rb_in (g:=g) (R:={ R with sc:=R.sc.set i { scg R.sc i with op:=false } }) (F:=rfP pb A1*(F*any)) (ja:=ja) (jc:=jc) (ra:=ra) (rc:=rc) (ka:=ka) (kc:=kc) (ea:=some ⟨eg0,eo,none⟩) (ec:=ec) (R.jb) R.ran (R.tak) (R.sc.set i { scg R.sc i with op:=false }) rfl rfl rfl rfl ?_) (by ac_rfl);rw [List.length_set];exact own_left
 rintro en w8 ⟨rfl,hs8⟩;have hJ1:R1.jb.length≤901:=by
  have q:=kd_len R A (stepA A ⟨13,cy,co,a,b,v⟩) ⟨13,cy,co,a,b,v⟩;rw [HK.out.trans hR1.symm] at q;omega
 have HE:=hid ((show R.ev A ⟨13,cy,co,a,b,v⟩=((R.tk A ⟨13,cy,co,a,b,v⟩).kind (stepA A ⟨13,cy,co,a,b,v⟩) ⟨13,cy,co,a,b,v⟩).lo (stepA A ⟨13,cy,co,a,b,v⟩) from rfl).trans (show _=R1.lo A1 by rw [HK.out.trans hR1.symm,← HA1.out]));clear hR1 HK hLo;obtain ⟨z,hz⟩:∃ z,z=looA A1:=⟨_,rfl⟩;rw [← hz]
 cases z
 case false =>
  have hr:=hid (show R1.lo A1=R1 by unfold Rb.lo;rw [← hz];rfl);clear hz;go_wp2_with fail
  go_end0
  rw [HE.out,hr.out,← HA1.out];exact ⟨rfl,own_left⟩
 case true =>
  have hr:=hid (show R1.lo A1={ R1 with jb:=R1.jb.map unF } by unfold Rb.lo;rw [← hz];rfl);clear hz;obtain ⟨ja2,jc2,ra2,rc2,ka2,kc2,ea2,ec2,hs9⟩:=rb_out (hs8.pull (Q:=rbP g R1));clear hs8;go_wp2_with fail;refine wp_gen (w0:=w0) ?_;intro wx hsx;clear hs9
  go_loopw [12] (fun i wr=>∃ (k:Nat) (J:List Jb),k≤R1.jb.length∧i=.int .i64 k∧Hid (J=(R1.jb.take k).map unF++R1.jb.drop k)∧Sat w0 wr (pts g 0 [.slice ja2 R1.jb.length jc2,.slice ra2 R1.ran.length rc2,.slice ka2 R1.tak.length kc2,.slice ea2 R1.sc.length ec2]*(recsP (.slice ja2 R1.jb.length jc2) J*(numsP .u64 (.slice ra2 R1.ran.length rc2) R1.ran*(numsP .i64 (.slice ka2 R1.tak.length kc2) R1.tak*(recsP (.slice ea2 R1.sc.length ec2) R1.sc*(rfP pb A1*(F*any)))))))) (fun i _=>R1.jb.length-(intOf i).toNat)
  case atStart=>exact ⟨0,R1.jb,Nat.zero_le _,rfl,rfl,own_left⟩
  case round =>
   obtain ⟨k,J,hk,rfl,hJ,hsr⟩:=hrel;clear hsx
   by_cases hlt:k<R1.jb.length
   ·have d1:decide (k<R1.jb.length)=true:=decide_eq_true hlt;have i1:(k:Int)<(R1.jb.length:Int):=by omega
    have hlJ:J.length=R1.jb.length:=by rw [hJ.out];simp;omega
    haveI:Lt k J.length:=⟨by omega⟩;obtain ⟨jg0,jo,rfl⟩:=recs_at (hsr.pull (Q:=recsP (.slice ja2 R1.jb.length jc2) J)) (by omega);have hat:jg J k=jg R1.jb k:=by rw [hJ.out];exact jg_mid hlt
    have hnx:=hid (show J.set k (unF (jg J k))=(R1.jb.take (k+1)).map unF++R1.jb.drop (k+1) by rw [hat,hJ.out];exact unF_next unF hlt);clear hJ hat
    by_cases h1:(jg J k).ended=true
    ·have hn2:=hid (show J=(R1.jb.take (k+1)).map unF++R1.jb.drop (k+1) by rw [← hnx.out,show unF (jg J k)=jg J k by unfold unF;rw [if_pos h1],jg_self (by omega)]);clear hnx;go_wp2_with fail;go_roundw
     case rel=>exact ⟨k+1,J,by omega,by go_num,hn2,own_left⟩
     case measure=>simp [intOf];omega
    ·have h2:(jg J k).ended=false:=by simpa using h1
     have hn2:=hid (show J.set k { jg J k with tidy:=false }=(R1.jb.take (k+1)).map unF++R1.jb.drop (k+1) by rw [← hnx.out,show unF (jg J k)={ jg J k with tidy:=false } by unfold unF;rw [if_neg h1]]);clear hnx h1;go_wp2_with fail;go_roundw
     case rel=>exact ⟨k+1,_,by omega,by go_num,hn2,own_left⟩
     case measure=>simp [intOf];omega
   ·have d1:decide (k<R1.jb.length)=false:=decide_eq_false hlt;obtain rfl:k=R1.jb.length:=by omega
    have hJ2:=hid (show J=R1.jb.map unF by rw [hJ.out,List.take_length,List.drop_length,List.append_nil]);clear hJ;go_wp2_with fail
    go_end0
    rw [HE.out,hr.out,← HA1.out];refine ⟨rfl,rb_in (ja:=ja2) (jc:=jc2) (ra:=ra2) (rc:=rc2) (ka:=ka2) (kc:=kc2) (ea:=ea2) (ec:=ec2) J R1.ran R1.tak R1.sc hJ2.out.symm rfl rfl rfl ?_⟩;rw [show J.length=R1.jb.length by rw [hJ2.out,List.length_map]];exact own_left
theorem rEv13b (g pb:Nat) (R:Rb) (A:Au) (n:Nat) (cy co:Int) (a b v:Nat) (hc:cntO (stepA A ⟨13,cy,co,a,b,v⟩) a≠0) (hN:EvNow n A R ⟨13,cy,co,a,b,v⟩) (hj:R.jb.length≤900) (hl:R.sc.length≤900) (he:EvOk ⟨13,cy,co,a,b,v⟩) (hse:0≤A.seen∧A.seen<1000000000) (c:Cf) (ta la sa qa ma:Option Addr) (tc lc sc qc mc:Nat) (w0 w:World) (F:HP) (hs:Sat w0 w (rbP g R*(rfP pb A*F))) :
  Calls Tryz.prog 26 #[.pointer (some ⟨g,0,none⟩),.pointer (some ⟨pb,0,none⟩),.agg #[.slice ta c.ts.length tc,.slice la c.ls.length lc,.int .i64 c.mutexes,.slice sa c.sems.length sc,.slice qa c.queues.length qc,.slice ma c.timers.length mc,.int .i64 c.table,.int .u32 c.mask,.int .u32 c.filter,.int .i64 c.charge,.int .u64 c.cycle,.int .u64 c.count],.agg #[.int .i64 13,.int .u64 cy,.int .u64 co,.int .u32 a,.int .u32 b,.int .u32 v]] w (RetV w0 (.tuple #[]) (rbP g (R.ev A ⟨13,cy,co,a,b,v⟩)*(rfP pb (stepA A ⟨13,cy,co,a,b,v⟩)*F))):=by
 have hea:=he.a;dsimp only at hea;have u1:IntKind.i64.wrap (a:Int)=a:=by rw [IntKind.wrap_i64];omega
 have hok1:=aok_step hN.ok he hN.ke;have Hke:=hid hN.ke;have hNx:=hid (fun (w:World) (G:HP) (h:Sat w0 w (rfP pb A*G))=>rfNext pb A ⟨13,cy,co,a,b,v⟩ w0 w G h hN.ok he hse);obtain ⟨A1,hA1⟩:∃ A1,A1=stepA A ⟨13,cy,co,a,b,v⟩:=⟨_,rfl⟩;rw [← hA1] at hok1;have hLo:=hid (fun (w:World) (G:HP) (h:Sat w0 w (rfP pb A1*G))=>rLoose pb A1 w0 w G h hok1);have ha64:a<64:=by have:=hN.inn.a (by dsimp only;omega);have:=hN.n64;dsimp only at *;omega
 have hOw:=hid (fun (w:World) (G:HP) (h:Sat w0 w (rfP pb A1*G))=>rOwns pb A1 a ha64 w0 w G h hok1);obtain ⟨i,hji,hil⟩:=hN.j13 rfl;dsimp only at hji;rw [← hA1] at hc;have ec1:((cntO A1 a:Int)==0)=false:=by rw [beq_eq_false_iff_ne];omega
 have HK:=hid (show (R.tk A ⟨13,cy,co,a,b,v⟩).kind (stepA A ⟨13,cy,co,a,b,v⟩) ⟨13,cy,co,a,b,v⟩=R by rw [tk_other _ _ (by dsimp only;omega)];unfold Rb.kind;rw [if_neg (by dsimp only;omega),if_neg (by dsimp only;omega),if_neg (by dsimp only;omega),if_neg (by dsimp only;omega),if_pos rfl];dsimp only;rw [hji,← hA1];dsimp only;rw [if_neg hc]);have HA1:=hid hA1;obtain ⟨ja,jc,ra,rc,ka,kc,ea,ec,hs⟩:=rb_out hs;clear hok1 hA1 hN he
 go_enter Tryz.func26,Tryz.ntmps26
 go_wp2_with fail;clear hc;have hOp:=hid (fun (w:World) (G:HP) (h:Sat w0 w (pts g 0 [.slice ja R.jb.length jc,.slice ra R.ran.length rc,.slice ka R.tak.length kc,.slice ea R.sc.length ec]*(recsP (.slice ea R.sc.length ec) R.sc*G)))=>rOpen g (.slice ja R.jb.length jc) (.slice ra R.ran.length rc) (.slice ka R.tak.length kc) ea ec R.sc (by omega) a w0 w G h);rw [show fidx (opI R.sc a)=(i:Int) by rw [hji];rfl] at hOp;haveI:Lt i R.sc.length:=⟨hil⟩;have ii:(i:Int)<(R.sc.length:Int):=by omega
 have di:decide (i<R.sc.length)=true:=decide_eq_true hil;obtain ⟨eg0,eo,rfl⟩:=recs_at (hs.pull (Q:=recsP (.slice ea R.sc.length ec) R.sc)) (by omega);clear hji;refine wp_gen (w0:=w0) ?_;intro wx hsx;clear hs;generalize w.heap.size=cb0 at *;refine wp_region_early (fun w'=>Sat w0 w' (pts (cb0+1) 0 [.int .i64 13,.int .u64 cy,.int .u64 co,.int .u32 a,.int .u32 b,.int .u32 v]*any)) [(0,true),(1,true),(2,true),(3,true),(4,true),(5,true),(6,true),(7,true),(8,true),(9,true),(10,true),(11,true),(12,true),(13,true),(14,true),(15,true),(16,true),(17,true),(18,true),(19,true)] (by kernel_rfl) (by kernel_rfl) (fun _ _ _ _ h=>h) own_left ?_
 iterate 20 (first | refine early_S ?_ | refine early_N ?_)
 refine early_done ?_;go_wp2_with fail;refine (hNx.out _ _ own).mono ?_;rintro en w2 ⟨rfl,hy,_⟩;have hs2:=hy Hke.out;rw [← HA1.out] at hs2;clear hy hNx;go_wp2_with fail;refine (hOp.out _ (recsP (.slice ja R.jb.length jc) R.jb*(numsP .u64 (.slice ra R.ran.length rc) R.ran*(numsP .i64 (.slice ka R.tak.length kc) R.tak*(rfP pb A1*(F*any))))) own_left).mono ?_;rintro en w3 ⟨rfl,hs3⟩;clear hOp hs2;go_wp2_with fail;refine (hOw.out _ _ own).mono ?_;rintro en w4 ⟨rfl,hs4⟩;clear hOw hs3;go_wp2_with fail;obtain ⟨R1,hR1⟩:∃ R1:Rb,R1=R:=⟨_,rfl⟩;refine (hLo.out _ (rbP g R1*(F*any)) ?_).mono ?_
 ·rw [hR1];refine Sat.perm (rb_in (g:=g) (R:=R) (F:=rfP pb A1*(F*any)) (ja:=ja) (jc:=jc) (ra:=ra) (rc:=rc) (ka:=ka) (kc:=kc) (ea:=some ⟨eg0,eo,none⟩) (ec:=ec) (R.jb) R.ran (R.tak) (R.sc) rfl rfl rfl rfl ?_) (by ac_rfl);exact own_left
 rintro en w8 ⟨rfl,hs8⟩;have hJ1:R1.jb.length≤901:=by
  have q:=kd_len R A (stepA A ⟨13,cy,co,a,b,v⟩) ⟨13,cy,co,a,b,v⟩;rw [HK.out.trans hR1.symm] at q;omega
 have HE:=hid ((show R.ev A ⟨13,cy,co,a,b,v⟩=((R.tk A ⟨13,cy,co,a,b,v⟩).kind (stepA A ⟨13,cy,co,a,b,v⟩) ⟨13,cy,co,a,b,v⟩).lo (stepA A ⟨13,cy,co,a,b,v⟩) from rfl).trans (show _=R1.lo A1 by rw [HK.out.trans hR1.symm,← HA1.out]));clear hR1 HK hLo;obtain ⟨z,hz⟩:∃ z,z=looA A1:=⟨_,rfl⟩;rw [← hz]
 cases z
 case false =>
  have hr:=hid (show R1.lo A1=R1 by unfold Rb.lo;rw [← hz];rfl);clear hz;go_wp2_with fail
  go_end0
  rw [HE.out,hr.out,← HA1.out];exact ⟨rfl,own_left⟩
 case true =>
  have hr:=hid (show R1.lo A1={ R1 with jb:=R1.jb.map unF } by unfold Rb.lo;rw [← hz];rfl);clear hz;obtain ⟨ja2,jc2,ra2,rc2,ka2,kc2,ea2,ec2,hs9⟩:=rb_out (hs8.pull (Q:=rbP g R1));clear hs8;go_wp2_with fail;refine wp_gen (w0:=w0) ?_;intro wx hsx;clear hs9
  go_loopw [12] (fun i wr=>∃ (k:Nat) (J:List Jb),k≤R1.jb.length∧i=.int .i64 k∧Hid (J=(R1.jb.take k).map unF++R1.jb.drop k)∧Sat w0 wr (pts g 0 [.slice ja2 R1.jb.length jc2,.slice ra2 R1.ran.length rc2,.slice ka2 R1.tak.length kc2,.slice ea2 R1.sc.length ec2]*(recsP (.slice ja2 R1.jb.length jc2) J*(numsP .u64 (.slice ra2 R1.ran.length rc2) R1.ran*(numsP .i64 (.slice ka2 R1.tak.length kc2) R1.tak*(recsP (.slice ea2 R1.sc.length ec2) R1.sc*(rfP pb A1*(F*any)))))))) (fun i _=>R1.jb.length-(intOf i).toNat)
  case atStart=>exact ⟨0,R1.jb,Nat.zero_le _,rfl,rfl,own_left⟩
  case round =>
   obtain ⟨k,J,hk,rfl,hJ,hsr⟩:=hrel;clear hsx
   by_cases hlt:k<R1.jb.length
   ·have d1:decide (k<R1.jb.length)=true:=decide_eq_true hlt;have i1:(k:Int)<(R1.jb.length:Int):=by omega
    have hlJ:J.length=R1.jb.length:=by rw [hJ.out];simp;omega
    haveI:Lt k J.length:=⟨by omega⟩;obtain ⟨jg0,jo,rfl⟩:=recs_at (hsr.pull (Q:=recsP (.slice ja2 R1.jb.length jc2) J)) (by omega);have hat:jg J k=jg R1.jb k:=by rw [hJ.out];exact jg_mid hlt
    have hnx:=hid (show J.set k (unF (jg J k))=(R1.jb.take (k+1)).map unF++R1.jb.drop (k+1) by rw [hat,hJ.out];exact unF_next unF hlt);clear hJ hat
    by_cases h1:(jg J k).ended=true
    ·have hn2:=hid (show J=(R1.jb.take (k+1)).map unF++R1.jb.drop (k+1) by rw [← hnx.out,show unF (jg J k)=jg J k by unfold unF;rw [if_pos h1],jg_self (by omega)]);clear hnx;go_wp2_with fail;go_roundw
     case rel=>exact ⟨k+1,J,by omega,by go_num,hn2,own_left⟩
     case measure=>simp [intOf];omega
    ·have h2:(jg J k).ended=false:=by simpa using h1
     have hn2:=hid (show J.set k { jg J k with tidy:=false }=(R1.jb.take (k+1)).map unF++R1.jb.drop (k+1) by rw [← hnx.out,show unF (jg J k)={ jg J k with tidy:=false } by unfold unF;rw [if_neg h1]]);clear hnx h1;go_wp2_with fail;go_roundw
     case rel=>exact ⟨k+1,_,by omega,by go_num,hn2,own_left⟩
     case measure=>simp [intOf];omega
   ·have d1:decide (k<R1.jb.length)=false:=decide_eq_false hlt;obtain rfl:k=R1.jb.length:=by omega
    have hJ2:=hid (show J=R1.jb.map unF by rw [hJ.out,List.take_length,List.drop_length,List.append_nil]);clear hJ;go_wp2_with fail
    go_end0
    rw [HE.out,hr.out,← HA1.out];refine ⟨rfl,rb_in (ja:=ja2) (jc:=jc2) (ra:=ra2) (rc:=rc2) (ka:=ka2) (kc:=kc2) (ea:=ea2) (ec:=ec2) J R1.ran R1.tak R1.sc hJ2.out.symm rfl rfl rfl ?_⟩;rw [show J.length=R1.jb.length by rw [hJ2.out,List.length_map]];exact own_left
theorem rEvent (g pb:Nat) (R:Rb) (A:Au) (n:Nat) (e:Ev) (hN:EvNow n A R e) (hj:R.jb.length≤900) (hl:R.sc.length≤900) (he:EvOk e) (hse:0≤A.seen∧A.seen<1000000000) (c:Cf) (ta la sa qa ma:Option Addr) (tc lc sc qc mc:Nat) (w0 w:World) (F:HP) (hs:Sat w0 w (rbP g R*(rfP pb A*F))) :
  Calls Tryz.prog 26 #[.pointer (some ⟨g,0,none⟩),.pointer (some ⟨pb,0,none⟩),.agg #[.slice ta c.ts.length tc,.slice la c.ls.length lc,.int .i64 c.mutexes,.slice sa c.sems.length sc,.slice qa c.queues.length qc,.slice ma c.timers.length mc,.int .i64 c.table,.int .u32 c.mask,.int .u32 c.filter,.int .i64 c.charge,.int .u64 c.cycle,.int .u64 c.count],.agg #[.int .i64 e.k,.int .u64 e.cy,.int .u64 e.co,.int .u32 e.a,.int .u32 e.b,.int .u32 e.v]] w (RetV w0 (.tuple #[]) (rbP g (R.ev A e)*(rfP pb (stepA A e)*F))):=by
 obtain ⟨k,cy,co,a,b,v⟩:=e
 by_cases h5:k=5
 ·subst h5
  by_cases hb:b=255
  ·exact rEv5a g pb R A n cy co a b v hb hN hj hl he hse c ta la sa qa ma tc lc sc qc mc w0 w F hs
  ·by_cases hst:(tkAt A b).st=1
   ·exact rEv5t g pb R A n cy co a b v hb hst hN hj hl he hse c ta la sa qa ma tc lc sc qc mc w0 w F hs
   ·exact rEv5b g pb R A n cy co a b v hb hst hN hj hl he hse c ta la sa qa ma tc lc sc qc mc w0 w F hs
 by_cases h6:k=6
 ·subst h6;exact rEv6 g pb R A n cy co a b v hN hj hl he hse c ta la sa qa ma tc lc sc qc mc w0 w F hs
 by_cases h8:k=8
 ·subst h8;exact rEv8 g pb R A n cy co a b v hN hj hl he hse c ta la sa qa ma tc lc sc qc mc w0 w F hs
 by_cases h9:k=9
 ·subst h9
  by_cases h1:b<32
  ·exact rEv9a g pb R A n cy co a b v h1 hN hj hl he hse c ta la sa qa ma tc lc sc qc mc w0 w F hs
  ·by_cases h2:b<64
   ·exact rEv9m g pb R A n cy co a b v ⟨by omega,h2⟩ hN hj hl he hse c ta la sa qa ma tc lc sc qc mc w0 w F hs
   ·exact rEv9b g pb R A n cy co a b v (by omega) hN hj hl he hse c ta la sa qa ma tc lc sc qc mc w0 w F hs
 by_cases h12:k=12
 ·subst h12
  by_cases hc:cntO (stepA A ⟨12,cy,co,a,b,v⟩) a=1
  ·exact rEv12a g pb R A n cy co a b v hc hN hj hl he hse c ta la sa qa ma tc lc sc qc mc w0 w F hs
  ·exact rEv12b g pb R A n cy co a b v hc hN hj hl he hse c ta la sa qa ma tc lc sc qc mc w0 w F hs
 by_cases h13:k=13
 ·subst h13
  by_cases hc:cntO (stepA A ⟨13,cy,co,a,b,v⟩) a=0
  ·exact rEv13a g pb R A n cy co a b v hc hN hj hl he hse c ta la sa qa ma tc lc sc qc mc w0 w F hs
  ·exact rEv13b g pb R A n cy co a b v hc hN hj hl he hse c ta la sa qa ma tc lc sc qc mc w0 w F hs
 exact rEvo g pb R A n k cy co a b v ⟨h5,h6,h8,h9,h12,h13⟩ hN hj hl he hse c ta la sa qa ma tc lc sc qc mc w0 w F hs
end Go.Proofs.YtkeommmigopnkaaGreatDoor
