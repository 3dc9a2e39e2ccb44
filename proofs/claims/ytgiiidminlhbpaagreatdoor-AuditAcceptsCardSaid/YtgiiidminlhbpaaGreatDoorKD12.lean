/-
  Parts of the proof: KernSv KernO KernR KernAc KernSp WorldC WorldR WorldS WorldT WorldD RegionF Struct.
-/
import Derived.Deep.LoopGhost
import Derived.Deep.MidRow
import Derived.Test.YtgiiidminlhbpaaGreatDoorKD0
import Derived.Test.YtgiiidminlhbpaaGreatDoorKD3
import Derived.Test.YtgiiidminlhbpaaGreatDoorKD4
import Derived.Test.YtgiiidminlhbpaaGreatDoorKD9
import Derived.Test.YtgiiidminlhbpaaGreatDoorKD11
set_option linter.unusedVariables false
set_option linter.unusedSimpArgs false
set_option maxHeartbeats 32000000
set_option maxRecDepth 100000
namespace Go.Proofs.YtgiiidminlhbpaaGreatDoor
open Go.RowKit Go.Sx Go.Dl Go.Lk Go.Rq Go.Au
section
variable {c:Cf} {K:Kn} {n:Nat} {value:Int}
theorem ziA (hop:(K.insL c n).op≤20) (hr:(doI (K.insL c n) ((K.paidL c n).cx (64+n))).1=0):K.serve c n value=(K.paidL c n).putCx (64+n) (doI (K.insL c n) ((K.paidL c n).cx (64+n))).2:=by
 unfold Kn.serve;dsimp only;rw [if_pos hop,if_pos hr]
def Kn.failL (K:Kn) (c:Cf) (n:Nat) (e:Int):Kn:=((K.tell c 21 (64+n:Nat) e 0).wLn ((K.tell c 21 (64+n:Nat) e 0).ln.bar n)).tell c 4 n 0 0
theorem zgA (hop:(K.insL c n).op≤20) (hr:¬ (doI (K.insL c n) ((K.paidL c n).cx (64+n))).1=0):K.serve c n value=(((K.paidL c n).putCx (64+n) (doI (K.insL c n) ((K.paidL c n).cx (64+n))).2).failL c n (doI (K.insL c n) ((K.paidL c n).cx (64+n))).1).wLn (((K.paidL c n).putCx (64+n) (doI (K.insL c n) ((K.paidL c n).cx (64+n))).2).failL c n (doI (K.insL c n) ((K.paidL c n).cx (64+n))).1).ln.leave:=by
 unfold Kn.serve Kn.failL;dsimp only;rw [if_pos hop,if_neg hr];rw [show ((64+n:Nat):Int)=64+(n:Int) by omega]
 rfl
theorem z8A (hop:(K.insL c n).op=38):K.serve c n value=((K.paidL c n).tell c 4 n 0 0).wLn ((K.paidL c n).tell c 4 n 0 0).ln.leave:=by
 unfold Kn.serve;dsimp only;rw [if_neg (by have:(z0j (lcg c n).code K.iat 38).op=38:=hop;omega),if_pos hop];rfl
theorem zgB (hop:¬ (K.insL c n).op≤20) (hop2:¬ (K.insL c n).op=38):K.serve c n value=((K.paidL c n).wIat (K.iat+1)).shared c (64+n) (K.insL c n) value:=by
 unfold Kn.serve;dsimp only;rw [if_neg hop,if_neg hop2];rfl
theorem zkL (h:Inv c K) (hn:n<c.ls.length) (hne:(K.insL c n).op≠38):(K.insL c n).op≤30:=by
 rcases z3H (l:=(lcg c n).code) (a:=K.iat) (last:=38) h.iat.1 with ⟨g1,g2,g3⟩ | ⟨_,g2⟩
 ·have hm:=z4D (h.cf.lc n hn _ g3).1;unfold Kn.insL at hne ⊢;rw [← g2] at hm;unfold may at hm;rw [if_neg hne] at hm
  by_cases e:(z0j (lcg c n).code K.iat 38).op=27∨(z0j (lcg c n).code K.iat 38).op=28
  ·omega
  ·simpa [e] using hm
 ·unfold Kn.insL at hne;rw [g2] at hne;exact absurd rfl hne
end
theorem zgQ {P:Program} {code:Code} {Q:Exit→Act→World→Prop} {a:Act} {w0 w:World} {b:Nat} {x:Fx} {c:Cf} {K:Kn} {n:Nat} {F:HP} (hs:Sat w0 w (knP b x c K*F)) (hn:n<c.ls.length) (hm:(K.mems n).length=z1w c n)
  (k:∀ (wx:World) (R:HP),Sat w0 wx (z3v b 531 (x.mv n) (K.cx (64+n))*(R*F))→Hid (∀ (x':Cx),x'.mem.length=z1w c n→∀ (w:World) (G:HP),Sat w0 w (z3v b 531 (x.mv n) x'*(R*G))→Sat w0 w (knP b x c (K.putCx (64+n) x')*G))→Code.wp P code Q a wx) :
  Code.wp P code Q a (w.setCell ⟨b,540,none⟩ (.slice ((x.mv n).ad (z1w c n)) (z1w c n) (x.mv n).cap)):=by
 obtain ⟨R0,h0⟩:=zkq (b:=b) (x:=x) (c:=c) (K:=K) hn;have n64:¬ 64+n<64:=by omega
 have e64:64+n-64=n:=by omega
 have hcx:K.cx (64+n)=⟨K.iat,K.irg,K.mems n⟩:=by unfold Kn.cx;rw [if_neg n64,e64]
 have e0:((K.wIat K.iat).wIrg K.irg).wMems (upd K.mems n (K.mems n))=K:=by rw [z10];rfl
 have e1:=h0 K.iat K.irg (K.mems n);rw [e0] at e1;have hs1:Sat w0 w ((ex fun v:Sh=>pts b 531 (cxL K.iat K.irg v.v))*(zex x c n (K.mems n)*R0*F)):=hs.perm (by rw [e1];ac_rfl);obtain ⟨v,hs2⟩:=hs1.ex_out;have hs3:=hs2.set (j:=9) (v:=.slice ((x.mv n).ad (z1w c n)) (z1w c n) (x.mv n).cap) (by simp [R8.cells]);refine k _ (pts x.mm.b (x.mm.o+n) [(x.mv n).v (z1w c n)]*R0) ?_ (hid ?_)
 ·rw [hcx];unfold z3v;dsimp only;rw [hm];refine hs3.perm ?_;unfold zex;have e3:(cxL K.iat K.irg v.v).set 9 (.slice ((x.mv n).ad (z1w c n)) (z1w c n) (x.mv n).cap)=cxL K.iat K.irg ((x.mv n).v (z1w c n)):=rfl;rw [e3]
  ac_rfl
 ·intro x' hx' w' G hs';have e4:K.putCx (64+n) x'=((K.wIat x'.at_).wIrg x'.rg).wMems (upd K.mems n x'.mem):=by unfold Kn.putCx;rw [if_neg n64,e64];rfl
  rw [e4,h0];have hs4:Sat w0 w' (pts b 531 (cxL x'.at_ x'.rg ((x.mv n).v x'.mem.length))*(zex x c n x'.mem*R0*G)):=hs'.perm (by unfold z3v zex;ac_rfl);have hs5:Sat w0 w' ((ex fun v:Sh=>pts b 531 (cxL x'.at_ x'.rg v.v))*(zex x c n x'.mem*R0*G)):=Sat.ex_in (f:=fun v:Sh=>pts b 531 (cxL x'.at_ x'.rg v.v)) ⟨(x.mv n).ad x'.mem.length,x'.mem.length,(x.mv n).cap⟩ hs4;exact hs5.perm (by ac_rfl)
theorem z73 {w0 w:World} {b:Nat} {x:Fx} {c:Cf} {K:Kn} {F:HP} (hs:Sat w0 w (knP b x c K*F)):(∃ v,w.cell? ⟨b,540,none⟩=some v)∧w.frozen? ⟨b,540,none⟩=false:=by
 obtain ⟨R0,h0⟩:=z0O b x c K;have e1:=h0 K.iat K.irg;have e0:(K.wIat K.iat).wIrg K.irg=K:=rfl;rw [e0] at e1;rw [e1] at hs;have hs1:Sat w0 w ((ex fun v:Sh=>pts b 531 (cxL K.iat K.irg v.v))*(R0*F)):=hs.perm (by ac_rfl);obtain ⟨v,hs2⟩:=hs1.ex_out;have hc:=zg (b:=b) (o:=531) (xs:=cxL K.iat K.irg v.v) (j:=9) rfl;exact ⟨⟨v.v,hc.cell hs2⟩,hc.free hs2⟩
theorem zdX (b:Nat) (x:Fx) (c:Cf) (K:Kn) (h:Inv c K) (n:Nat) (ha:K.ln.active=n) (hn:n<c.ls.length) (hin:K.iat<(lcg c n).code.length) (hop:(K.insL c n).op≤20) (hr0:(doI (K.insL c n) ((K.paidL c n).cx (64+n))).1=0) (value:Int) (hvl:zG value) (w0 w:World) (F:HP) (hs:Sat w0 w (knP b x c K*F)) (hl:K.told.length≤99000) :
  Calls Tryz.prog 77 #[.pointer (some ⟨b,0,none⟩),.int .i64 n,.int .u32 value] w (zp w0 (.tuple #[]) (knP b x c (K.serve c n value)*F)):=by
 have cf:=h.cf;have hnl:=cf.nl;have hi:=z1k cf hn h.iat.1;have hcz:=z0s hi;have hcl:=(cf.l n hn).2;obtain ⟨m,hat⟩:=Int.eq_ofNat_of_zero_le h.iat.1;have hm300:m≤300:=by have:=h.iat.2;omega
 have hcyc:=h.cyc;obtain ⟨z,hz⟩:∃ z,z=zT (K.insL c n):=⟨_,rfl⟩;obtain ⟨y2,hy2⟩:∃ y2,y2=(K.cycle+z)%18446744073709551616:=⟨_,rfl⟩;have hp:K.paidL c n=K.wCycle y2:=by rw [hy2,hz];rfl
 have hzr:1≤z∧z≤1000:=by rw [hz];exact hcz
 have u1:IntKind.u64.wrap z=z:=by rw [IntKind.wrap_u64];omega
 have u2:IntKind.u64.wrap (K.cycle+z)=y2:=by rw [IntKind.wrap_u64,hy2]
 have u3:(K.cycle+z)%18446744073709551616=y2:=hy2.symm;have u4:IntKind.i64.wrap ((m:Int)+1)=(m:Int)+1:=by rw [IntKind.wrap_i64];omega
 have u5:IntKind.i64.wrap (64+(n:Int))=64+(n:Int):=by rw [IntKind.wrap_i64];omega
 have hC:=hid (fun (w:World) (G:HP) (hs:Sat w0 w (knP b x c K*G))=>z1g (K.insL c n) z hz.symm hi.form hi.k w0 w _ hs);haveI:Lt n c.ls.length:=⟨hn⟩;have a1:=x.mm.ad_pos (show 0<c.ls.length by omega);have a2:=x.c.cl.ad_pos (show 0<c.ls.length by omega);have i1:(n:Int)<(c.ls.length:Int):=by omega
 have d1:decide (n<c.ls.length)=true:=decide_eq_true hn;have hml:m<(lcg c n).code.length:=by rw [hat] at hin;omega
 haveI:Lt m (lcg c n).code.length:=⟨hml⟩;have a3:=(x.c.lv n).ad_pos (show 0<(lcg c n).code.length by omega);have i2:(m:Int)<((lcg c n).code.length:Int):=by omega
 have d2:decide (m<(lcg c n).code.length)=true:=decide_eq_true hml;have hie:K.insL c n=zM (lcg c n).code m:=by unfold Kn.insL z0j;rw [if_pos hin,hat]
 have hpl:=z7I h ha hn hop;have hmm:((K.wCycle y2).mems n).length=z1w c n:=(h.mems n hn).1;have hx:=hid (ziA (value:=value) hop hr0);have hcxe:(K.paidL c n).cx (64+n)=⟨K.iat,K.irg,K.mems n⟩:=by unfold Kn.cx;rw [if_neg (by omega),show 64+n-64=n by omega];rfl
 have hok:zjy ((K.paidL c n).cx (64+n)):=by rw [hcxe];exact ⟨h.irg,(h.mems n hn).2⟩
 have hdo:=z6N hi hok;have hD:=hid (fun (w:World) (G:HP) (hs:Sat w0 w (z3v b 531 (x.mv n) ((K.paidL c n).cx (64+n))*G))=>zjL b 531 (x.mv n) _ (K.insL c n) hi hop ⟨hok.rg,by rw [hcxe];exact h.iat,by rw [hcxe];have:=(cf.l n hn).1;have h9:=(h.mems n hn).1;show (K.mems n).length≤256;omega⟩ w0 w G hs);have hml2:Hid ((doI (K.insL c n) ((K.paidL c n).cx (64+n))).2.mem.length=z1w c n):=hid (by rw [hdo.2,hcxe];exact (h.mems n hn).1);rw [hr0] at hD;rw [hp] at hx hD hml2;rw [hie] at hx hml2 hD hC hop;rw [hx.out];obtain ⟨j,hj⟩:∃ j,j=zM (lcg c n).code m:=⟨_,rfl⟩;rw [← hj] at hx hD hC hop hml2 ⊢;have hin':zM (lcg c n).code m=j:=hj.symm;obtain ⟨op,a,b',c',d,k⟩:=j;have f1:decide (op≤20)=true:=decide_eq_true hop;have f3:(op==38)=false:=by have:op≤20:=hop;simp;omega
 clear h ha hi hx hcz hcl hcyc hz hy2 hp hzr hie hin hvl hl cf hpl hr0 hj hop hok hdo hcxe
 go_enter Tryz.func77,Tryz.ntmps77
 go_wp2_with fail;refine z9 (w0:=w0) ?_;intro wx hsx;clear hs;refine zw (fun w'=>w'.cell? ⟨b,1,none⟩=some (.int .u64 K.cycle)∧w'.cell? ⟨w.heap.size,0,none⟩=some (.int .i64 op)∧w'.cell? ⟨w.heap.size,1,none⟩=some (.int .i64 a)∧w'.cell? ⟨w.heap.size,2,none⟩=some (.int .i64 b')∧w'.cell? ⟨w.heap.size,3,none⟩=some (.int .i64 c')∧w'.cell? ⟨w.heap.size,4,none⟩=some (.int .i64 d)∧w'.cell? ⟨w.heap.size,5,none⟩=some (.int .u32 k)) 12 [(0,0),(1,0),(2,0),(3,0),(4,1),(5,1),(6,2),(7,0),(8,0),(9,0),(10,0),(11,0),(12,2)] (by kernel_rfl) (by kernel_rfl) (fun _ _ _ _ h=>h) ⟨z4,z4,z4,z4,z4,z4,z4⟩ ?_
 iterate 6 (first | refine zt1 ?_ | refine zt3 ?_ | refine zt0 ?_ | refine zt2 ?_)
 refine zpN rfl (by rfl) (fun K hK=>?_);go_wp2_with fail;refine (hC.out _ _ own).mono ?_;rintro en w3 ⟨rfl,hs3⟩;clear hsx;go_wp2_with fail
 (first | refine ⟨fun _=>⟨z4,z4,z4,z4,z4,z4,z4⟩,?_⟩ | refine ⟨fun h=>absurd rfl h,?_⟩ | skip)
 iterate 5 (first | refine zt1 ?_ | refine zt3 ?_ | refine zt0 ?_ | refine zt2 ?_)
 refine zpN rfl (by rfl) (fun K hK=>?_);go_wp2_with fail
 (first | refine ⟨fun _=>⟨z4,z4,z4,z4,z4,z4,z4⟩,?_⟩ | refine ⟨fun h=>absurd rfl h,?_⟩ | skip)
 refine z0b ?_;have hsz:Sat w0 (w3.setCell ⟨b,1,none⟩ (.int .u64 y2)) (knP b x c (K.wCycle y2)*(pts w.heap.size 0 [.int .i64 op,.int .i64 a,.int .i64 b',.int .i64 c',.int .i64 d,.int .u32 k]*F)):=z3;obtain ⟨⟨v540,hc540⟩,hf540⟩:=z73 hs3;obtain ⟨⟨v541,hc541⟩,hf541⟩:=z73 hsz;clear hs3;go_wp2_with fail;refine zgQ (b:=b) (x:=x) (c:=c) (K:=K.wCycle y2) (n:=n) hsz hn hmm ?_;intro wq R hsq hfold;clear hsz;refine z9 (w0:=w0) ?_;intro wx hsx;go_still_tail 4,(by kernel_rfl);change wpList _ _ _ _ _ wx.drew;go_wp2_with fail;refine (hD.out _ _ own).mono ?_;rintro en w4 ⟨rfl,hs4⟩;clear hsq;have hs5:=hfold.out _ hml2.out _ _ hs4;clear hs4;go_wp2_with fail
 go_end0
 exact ⟨rfl,z3⟩
theorem zbI (b:Nat) (x:Fx) (c:Cf) (K:Kn) (h:Inv c K) (n:Nat) (ha:K.ln.active=n) (hn:n<c.ls.length) (hin:K.iat<(lcg c n).code.length) (hop:(K.insL c n).op≤20) (hr0:¬ (doI (K.insL c n) ((K.paidL c n).cx (64+n))).1=0) (value:Int) (hvl:zG value) (w0 w:World) (F:HP) (hs:Sat w0 w (knP b x c K*F)) (hl:K.told.length≤99000) :
  Calls Tryz.prog 77 #[.pointer (some ⟨b,0,none⟩),.int .i64 n,.int .u32 value] w (zp w0 (.tuple #[]) (knP b x c (K.serve c n value)*F)):=by
 have cf:=h.cf;have hnl:=cf.nl;have hi:=z1k cf hn h.iat.1;have hcz:=z0s hi;have hcl:=(cf.l n hn).2;obtain ⟨m,hat⟩:=Int.eq_ofNat_of_zero_le h.iat.1;have hm300:m≤300:=by have:=h.iat.2;omega
 have hcyc:=h.cyc;obtain ⟨z,hz⟩:∃ z,z=zT (K.insL c n):=⟨_,rfl⟩;obtain ⟨y2,hy2⟩:∃ y2,y2=(K.cycle+z)%18446744073709551616:=⟨_,rfl⟩;have hp:K.paidL c n=K.wCycle y2:=by rw [hy2,hz];rfl
 have hzr:1≤z∧z≤1000:=by rw [hz];exact hcz
 have u1:IntKind.u64.wrap z=z:=by rw [IntKind.wrap_u64];omega
 have u2:IntKind.u64.wrap (K.cycle+z)=y2:=by rw [IntKind.wrap_u64,hy2]
 have u3:(K.cycle+z)%18446744073709551616=y2:=hy2.symm;have u4:IntKind.i64.wrap ((m:Int)+1)=(m:Int)+1:=by rw [IntKind.wrap_i64];omega
 have u5:IntKind.i64.wrap (64+(n:Int))=64+(n:Int):=by rw [IntKind.wrap_i64];omega
 have hC:=hid (fun (w:World) (G:HP) (hs:Sat w0 w (knP b x c K*G))=>z1g (K.insL c n) z hz.symm hi.form hi.k w0 w _ hs);haveI:Lt n c.ls.length:=⟨hn⟩;have a1:=x.mm.ad_pos (show 0<c.ls.length by omega);have a2:=x.c.cl.ad_pos (show 0<c.ls.length by omega);have i1:(n:Int)<(c.ls.length:Int):=by omega
 have d1:decide (n<c.ls.length)=true:=decide_eq_true hn;have hml:m<(lcg c n).code.length:=by rw [hat] at hin;omega
 haveI:Lt m (lcg c n).code.length:=⟨hml⟩;have a3:=(x.c.lv n).ad_pos (show 0<(lcg c n).code.length by omega);have i2:(m:Int)<((lcg c n).code.length:Int):=by omega
 have d2:decide (m<(lcg c n).code.length)=true:=decide_eq_true hml;have hie:K.insL c n=zM (lcg c n).code m:=by unfold Kn.insL z0j;rw [if_pos hin,hat]
 have hpl:=z7I h ha hn hop;have hmm:((K.wCycle y2).mems n).length=z1w c n:=(h.mems n hn).1;have hx:=hid (zgA (value:=value) hop hr0);have hcxe:(K.paidL c n).cx (64+n)=⟨K.iat,K.irg,K.mems n⟩:=by unfold Kn.cx;rw [if_neg (by omega),show 64+n-64=n by omega];rfl
 have hok:zjy ((K.paidL c n).cx (64+n)):=by rw [hcxe];exact ⟨h.irg,(h.mems n hn).2⟩
 have hdo:=z6N hi hok;have hD:=hid (fun (w:World) (G:HP) (hs:Sat w0 w (z3v b 531 (x.mv n) ((K.paidL c n).cx (64+n))*G))=>zjL b 531 (x.mv n) _ (K.insL c n) hi hop ⟨hok.rg,by rw [hcxe];exact h.iat,by rw [hcxe];have:=(cf.l n hn).1;have h9:=(h.mems n hn).1;show (K.mems n).length≤256;omega⟩ w0 w G hs);have hml2:Hid ((doI (K.insL c n) ((K.paidL c n).cx (64+n))).2.mem.length=z1w c n):=hid (by rw [hdo.2,hcxe];exact (h.mems n hn).1);have hsm:=z3x (K.insL c n) ((K.paidL c n).cx (64+n));obtain ⟨r,hrr⟩:∃ r,r=doI (K.insL c n) ((K.paidL c n).cx (64+n)):=⟨_,rfl⟩;have hDr:Hid (∀ (w:World) (G:HP),Sat w0 w (z3v b 531 (x.mv n) ((K.paidL c n).cx (64+n))*G)→Calls Tryz.prog 95 #[.pointer (some ⟨b,531,none⟩),z22 (K.insL c n)] w (zp w0 (.int .i64 r.1) (z3v b 531 (x.mv n) r.2*G))):=by rw [hrr];exact hD
 clear hD;have hD:=hDr;clear hDr;rw [← hrr] at hx hr0 hsm hpl hml2;have z1:(r.1 != 0)=true:=by simp [hr0]
 have z2:(r.1==0)=false:=by simp [hr0]
 have h4:=zl hpl 21 (64+n:Nat) r.1 0;have l5:=zW (c:=c) ((K.paidL c n).putCx (64+n) r.2) 21 (64+n:Nat) r.1 0;have l6:((K.paidL c n).putCx (64+n) r.2).told=K.told:=(z0Z (K:=K.paidL c n) (who:=64+n) r.2).1;rw [l6] at l5;rw [hp] at hx hD h4 l5 l6;obtain ⟨K2,hK2⟩:∃ K2,K2=(K.wCycle y2).putCx (64+n) r.2:=⟨_,rfl⟩;rw [← hK2] at hx h4 l5 l6;have HK2:=hid hK2;have e64:((64+n:Nat):Int)=64+(n:Int):=by omega
 unfold Kn.failL at hx;rw [e64] at hx h4 l5;have hB:=hid (fun (kI:Int) (hk:kI=21) (w:World) (G:HP) (hs:Sat w0 w (knP b x c K2*G))=>zN b x c _ 21 kI hk (64+n) r.1 0 w0 w G hs cf (by decide) ⟨by omega,by omega⟩ ⟨by omega,by omega⟩ ⟨by decide,by decide⟩ (by rw [l6];omega));have hBar:=hid (fun (w:World) (G:HP) (hs:Sat w0 w (knP b x c (K2.tell c 21 (64+n) r.1 0)*G))=>zm9 b x c _ w0 w G hs (z6o h4) n (by omega));have hE:=hid (fun (kI:Int) (hk:kI=4) (w:World) (G:HP) (hs:Sat w0 w (knP b x c ((K2.tell c 21 (64+n) r.1 0).wLn ((K2.tell c 21 (64+n) r.1 0).ln.bar n))*G))=>zN b x c _ 4 kI hk n 0 0 w0 w G hs cf (by decide) ⟨by omega,by omega⟩ ⟨by decide,by decide⟩ ⟨by decide,by decide⟩ (by show (K2.tell c 21 (64+n) r.1 0).told.length≤100000;omega));clear hK2 e64;rw [hie] at hD hC hop;rw [hx.out];obtain ⟨j,hj⟩:∃ j,j=zM (lcg c n).code m:=⟨_,rfl⟩;rw [← hj] at hD hC hop;have hin':zM (lcg c n).code m=j:=hj.symm;obtain ⟨op,a,b',c',d,k⟩:=j;have f1:decide (op≤20)=true:=decide_eq_true hop;clear h ha hi hx hcz hcl hcyc hz hy2 hp hzr hie hin hvl hl cf hpl hr0 hj hop hsm hrr h4 l5 l6 hok hdo hcxe
 go_enter Tryz.func77,Tryz.ntmps77
 go_wp2_with fail;refine z9 (w0:=w0) ?_;intro wx hsx;clear hs;refine zw (fun w'=>w'.cell? ⟨b,1,none⟩=some (.int .u64 K.cycle)∧w'.cell? ⟨w.heap.size,0,none⟩=some (.int .i64 op)∧w'.cell? ⟨w.heap.size,1,none⟩=some (.int .i64 a)∧w'.cell? ⟨w.heap.size,2,none⟩=some (.int .i64 b')∧w'.cell? ⟨w.heap.size,3,none⟩=some (.int .i64 c')∧w'.cell? ⟨w.heap.size,4,none⟩=some (.int .i64 d)∧w'.cell? ⟨w.heap.size,5,none⟩=some (.int .u32 k)) 12 [(0,0),(1,0),(2,0),(3,0),(4,1),(5,1),(6,2),(7,0),(8,0),(9,0),(10,0),(11,0),(12,2)] (by kernel_rfl) (by kernel_rfl) (fun _ _ _ _ h=>h) ⟨z4,z4,z4,z4,z4,z4,z4⟩ ?_
 iterate 6 (first | refine zt1 ?_ | refine zt3 ?_ | refine zt0 ?_ | refine zt2 ?_)
 refine zpN rfl (by rfl) (fun K hK=>?_);go_wp2_with fail;refine (hC.out _ _ own).mono ?_;rintro en w3 ⟨rfl,hs3⟩;clear hsx;go_wp2_with fail
 (first | refine ⟨fun _=>⟨z4,z4,z4,z4,z4,z4,z4⟩,?_⟩ | refine ⟨fun h=>absurd rfl h,?_⟩ | skip)
 iterate 5 (first | refine zt1 ?_ | refine zt3 ?_ | refine zt0 ?_ | refine zt2 ?_)
 refine zpN rfl (by rfl) (fun K hK=>?_);go_wp2_with fail
 (first | refine ⟨fun _=>⟨z4,z4,z4,z4,z4,z4,z4⟩,?_⟩ | refine ⟨fun h=>absurd rfl h,?_⟩ | skip)
 refine z0b ?_;have hsz:Sat w0 (w3.setCell ⟨b,1,none⟩ (.int .u64 y2)) (knP b x c (K.wCycle y2)*(pts w.heap.size 0 [.int .i64 op,.int .i64 a,.int .i64 b',.int .i64 c',.int .i64 d,.int .u32 k]*F)):=z3;obtain ⟨⟨v540,hc540⟩,hf540⟩:=z73 hs3;obtain ⟨⟨v541,hc541⟩,hf541⟩:=z73 hsz;clear hs3;go_wp2_with fail;refine zgQ (b:=b) (x:=x) (c:=c) (K:=K.wCycle y2) (n:=n) hsz hn hmm ?_;intro wq R hsq hfold;clear hsz;refine z9 (w0:=w0) ?_;intro wx hsx;go_still_tail 4,(by kernel_rfl);change wpList _ _ _ _ _ wx.drew;go_wp2_with fail;refine (hD.out _ _ own).mono ?_;rintro en w4 ⟨rfl,hs4⟩;clear hsq;have hs5:=hfold.out _ hml2.out _ _ hs4;rw [← HK2.out] at hs5;clear hs4 hfold HK2 hml2;go_wp2_with fail;refine (hB.out _ rfl _ _ own).mono ?_;rintro en w5 ⟨rfl,hs6⟩;go_wp2_with fail;refine (hBar.out _ _ own).mono ?_;rintro en w7 ⟨rfl,hs7⟩;go_wp2_with fail;refine (hE.out _ rfl _ _ own).mono ?_;rintro en w8 ⟨rfl,hs8⟩;go_wp2_with fail;refine (z91 b x c _ w0 _ _ z6).mono ?_;rintro en w9 ⟨vv,rfl,hs9⟩;go_wp2_with fail
 go_end0
 exact ⟨rfl,z3⟩
theorem zap (b:Nat) (x:Fx) (c:Cf) (K:Kn) (h:Inv c K) (n:Nat) (ha:K.ln.active=n) (hn:n<c.ls.length) (hin:K.iat<(lcg c n).code.length) (hop:(K.insL c n).op=38) (value:Int) (hvl:zG value) (w0 w:World) (F:HP) (hs:Sat w0 w (knP b x c K*F)) (hl:K.told.length≤99000) :
  Calls Tryz.prog 77 #[.pointer (some ⟨b,0,none⟩),.int .i64 n,.int .u32 value] w (zp w0 (.tuple #[]) (knP b x c (K.serve c n value)*F)):=by
 have cf:=h.cf;have hnl:=cf.nl;have hi:=z1k cf hn h.iat.1;have hcz:=z0s hi;have hcl:=(cf.l n hn).2;obtain ⟨m,hat⟩:=Int.eq_ofNat_of_zero_le h.iat.1;have hm300:m≤300:=by have:=h.iat.2;omega
 have hcyc:=h.cyc;obtain ⟨z,hz⟩:∃ z,z=zT (K.insL c n):=⟨_,rfl⟩;obtain ⟨y2,hy2⟩:∃ y2,y2=(K.cycle+z)%18446744073709551616:=⟨_,rfl⟩;have hp:K.paidL c n=K.wCycle y2:=by rw [hy2,hz];rfl
 have hzr:1≤z∧z≤1000:=by rw [hz];exact hcz
 have u1:IntKind.u64.wrap z=z:=by rw [IntKind.wrap_u64];omega
 have u2:IntKind.u64.wrap (K.cycle+z)=y2:=by rw [IntKind.wrap_u64,hy2]
 have u3:(K.cycle+z)%18446744073709551616=y2:=hy2.symm;have u4:IntKind.i64.wrap ((m:Int)+1)=(m:Int)+1:=by rw [IntKind.wrap_i64];omega
 have u5:IntKind.i64.wrap (64+(n:Int))=64+(n:Int):=by rw [IntKind.wrap_i64];omega
 have hC:=hid (fun (w:World) (G:HP) (hs:Sat w0 w (knP b x c K*G))=>z1g (K.insL c n) z hz.symm hi.form hi.k w0 w _ hs);haveI:Lt n c.ls.length:=⟨hn⟩;have a1:=x.mm.ad_pos (show 0<c.ls.length by omega);have a2:=x.c.cl.ad_pos (show 0<c.ls.length by omega);have i1:(n:Int)<(c.ls.length:Int):=by omega
 have d1:decide (n<c.ls.length)=true:=decide_eq_true hn;have hml:m<(lcg c n).code.length:=by rw [hat] at hin;omega
 haveI:Lt m (lcg c n).code.length:=⟨hml⟩;have a3:=(x.c.lv n).ad_pos (show 0<(lcg c n).code.length by omega);have i2:(m:Int)<((lcg c n).code.length:Int):=by omega
 have d2:decide (m<(lcg c n).code.length)=true:=decide_eq_true hml;have hie:K.insL c n=zM (lcg c n).code m:=by unfold Kn.insL z0j;rw [if_pos hin,hat]
 have hx:=hid (z8A (value:=value) hop);have hE:=hid (fun (kI:Int) (hk:kI=4) (w:World) (G:HP) (hs:Sat w0 w (knP b x c (K.paidL c n)*G))=>zN b x c _ 4 kI hk n 0 0 w0 w G hs cf (by decide) ⟨by omega,by omega⟩ ⟨by decide,by decide⟩ ⟨by decide,by decide⟩ (by show K.told.length≤100000;omega));rw [hp] at hx hE;rw [hie] at hC hop;rw [hx.out];obtain ⟨j,hj⟩:∃ j,j=zM (lcg c n).code m:=⟨_,rfl⟩;rw [← hj] at hC hop;have hin':zM (lcg c n).code m=j:=hj.symm;obtain ⟨op,a,b',c',d,k⟩:=j;have ho:op=38:=hop;subst ho;clear h ha hi hx hcz hcl hcyc hz hy2 hp hzr hie hin hvl hl cf hj hop
 go_enter Tryz.func77,Tryz.ntmps77
 go_wp2_with fail;refine z9 (w0:=w0) ?_;intro wx hsx;clear hs;refine zw (fun w'=>w'.cell? ⟨b,1,none⟩=some (.int .u64 K.cycle)∧w'.cell? ⟨w.heap.size,0,none⟩=some (.int .i64 38)∧w'.cell? ⟨w.heap.size,1,none⟩=some (.int .i64 a)∧w'.cell? ⟨w.heap.size,2,none⟩=some (.int .i64 b')∧w'.cell? ⟨w.heap.size,3,none⟩=some (.int .i64 c')∧w'.cell? ⟨w.heap.size,4,none⟩=some (.int .i64 d)∧w'.cell? ⟨w.heap.size,5,none⟩=some (.int .u32 k)) 12 [(0,0),(1,0),(2,0),(3,0),(4,1),(5,1),(6,2),(7,0),(8,0),(9,0),(10,0),(11,0),(12,2)] (by kernel_rfl) (by kernel_rfl) (fun _ _ _ _ h=>h) ⟨z4,z4,z4,z4,z4,z4,z4⟩ ?_
 iterate 6 (first | refine zt1 ?_ | refine zt3 ?_ | refine zt0 ?_ | refine zt2 ?_)
 refine zpN rfl (by rfl) (fun K hK=>?_);go_wp2_with fail;refine (hC.out _ _ own).mono ?_;rintro en w3 ⟨rfl,hs3⟩;clear hsx;go_wp2_with fail
 (first | refine ⟨fun _=>⟨z4,z4,z4,z4,z4,z4,z4⟩,?_⟩ | refine ⟨fun h=>absurd rfl h,?_⟩ | skip)
 iterate 5 (first | refine zt1 ?_ | refine zt3 ?_ | refine zt0 ?_ | refine zt2 ?_)
 refine zpN rfl (by rfl) (fun K hK=>?_);go_wp2_with fail
 (first | refine ⟨fun _=>⟨z4,z4,z4,z4,z4,z4,z4⟩,?_⟩ | refine ⟨fun h=>absurd rfl h,?_⟩ | skip)
 refine z0b ?_;go_wp2_with fail;refine (hE.out _ rfl _ _ own).mono ?_;rintro en w4 ⟨rfl,hs4⟩;go_wp2_with fail;refine (z91 b x c _ w0 _ _ z6).mono ?_;rintro en w9 ⟨vv,rfl,hs9⟩;go_wp2_with fail
 go_end0
 exact ⟨rfl,z3⟩
theorem zbK (b:Nat) (x:Fx) (c:Cf) (K:Kn) (h:Inv c K) (n:Nat) (ha:K.ln.active=n) (hn:n<c.ls.length) (hin:K.iat<(lcg c n).code.length) (hop:¬ (K.insL c n).op≤20) (hop2:¬ (K.insL c n).op=38) (value:Int) (hvl:zG value) (w0 w:World) (F:HP) (hs:Sat w0 w (knP b x c K*F)) (hl:K.told.length≤99000) :
  Calls Tryz.prog 77 #[.pointer (some ⟨b,0,none⟩),.int .i64 n,.int .u32 value] w (zp w0 (.tuple #[]) (knP b x c (K.serve c n value)*F)):=by
 have cf:=h.cf;have hnl:=cf.nl;have hi:=z1k cf hn h.iat.1;have hcz:=z0s hi;have hcl:=(cf.l n hn).2;obtain ⟨m,hat⟩:=Int.eq_ofNat_of_zero_le h.iat.1;have hm300:m≤300:=by have:=h.iat.2;omega
 have hcyc:=h.cyc;obtain ⟨z,hz⟩:∃ z,z=zT (K.insL c n):=⟨_,rfl⟩;obtain ⟨y2,hy2⟩:∃ y2,y2=(K.cycle+z)%18446744073709551616:=⟨_,rfl⟩;have hp:K.paidL c n=K.wCycle y2:=by rw [hy2,hz];rfl
 have hzr:1≤z∧z≤1000:=by rw [hz];exact hcz
 have u1:IntKind.u64.wrap z=z:=by rw [IntKind.wrap_u64];omega
 have u2:IntKind.u64.wrap (K.cycle+z)=y2:=by rw [IntKind.wrap_u64,hy2]
 have u3:(K.cycle+z)%18446744073709551616=y2:=hy2.symm;have u4:IntKind.i64.wrap ((m:Int)+1)=(m:Int)+1:=by rw [IntKind.wrap_i64];omega
 have u5:IntKind.i64.wrap (64+(n:Int))=64+(n:Int):=by rw [IntKind.wrap_i64];omega
 have hC:=hid (fun (w:World) (G:HP) (hs:Sat w0 w (knP b x c K*G))=>z1g (K.insL c n) z hz.symm hi.form hi.k w0 w _ hs);haveI:Lt n c.ls.length:=⟨hn⟩;have a1:=x.mm.ad_pos (show 0<c.ls.length by omega);have a2:=x.c.cl.ad_pos (show 0<c.ls.length by omega);have i1:(n:Int)<(c.ls.length:Int):=by omega
 have d1:decide (n<c.ls.length)=true:=decide_eq_true hn;have hml:m<(lcg c n).code.length:=by rw [hat] at hin;omega
 haveI:Lt m (lcg c n).code.length:=⟨hml⟩;have a3:=(x.c.lv n).ad_pos (show 0<(lcg c n).code.length by omega);have i2:(m:Int)<((lcg c n).code.length:Int):=by omega
 have d2:decide (m<(lcg c n).code.length)=true:=decide_eq_true hml;have hie:K.insL c n=zM (lcg c n).code m:=by unfold Kn.insL z0j;rw [if_pos hin,hat]
 have hx:=hid (zgB (value:=value) hop hop2);obtain ⟨h4,h5⟩:=z8z h ha hn hop2;have h30:=zkL h hn hop2;have h4:Inv c ((K.paidL c n).wIat (K.iat+1)):=h4;have hS:=hid (fun (w:World) (G:HP) (hs:Sat w0 w (knP b x c ((K.paidL c n).wIat (K.iat+1))*G))=>zd3 b x c _ (64+n) b 531 ⟨.inr ⟨by omega,by omega,rfl,rfl⟩⟩ (K.insL c n) hi h4 ⟨by omega,h30⟩ (fun _=>h5) value hvl w0 w G hs (by show K.told.length≤99900;omega));rw [hat,hp] at hx hS;rw [show ((64+n:Nat):Int)=64+(n:Int) by omega] at hS;rw [hie] at hx hS hC hop hop2;rw [hx.out];obtain ⟨j,hj⟩:∃ j,j=zM (lcg c n).code m:=⟨_,rfl⟩;rw [← hj] at hx hS hC hop hop2 ⊢;have hin':zM (lcg c n).code m=j:=hj.symm;obtain ⟨op,a,b',c',d,k⟩:=j;have f1:decide (op≤20)=false:=decide_eq_false hop;have f2:(op==38)=false:=by simpa using hop2
 have f3:(op != 38)=true:=by simpa using hop2
 clear h ha hi hx hcz hcl hcyc hz hy2 hp hzr hie hin hvl hl cf h4 h5 h30 hj hop hop2
 go_enter Tryz.func77,Tryz.ntmps77
 go_wp2_with fail;refine z9 (w0:=w0) ?_;intro wx hsx;clear hs;refine zw (fun w'=>w'.cell? ⟨b,1,none⟩=some (.int .u64 K.cycle)∧w'.cell? ⟨w.heap.size,0,none⟩=some (.int .i64 op)∧w'.cell? ⟨w.heap.size,1,none⟩=some (.int .i64 a)∧w'.cell? ⟨w.heap.size,2,none⟩=some (.int .i64 b')∧w'.cell? ⟨w.heap.size,3,none⟩=some (.int .i64 c')∧w'.cell? ⟨w.heap.size,4,none⟩=some (.int .i64 d)∧w'.cell? ⟨w.heap.size,5,none⟩=some (.int .u32 k)) 12 [(0,0),(1,0),(2,0),(3,0),(4,1),(5,1),(6,2),(7,0),(8,0),(9,0),(10,0),(11,0),(12,2)] (by kernel_rfl) (by kernel_rfl) (fun _ _ _ _ h=>h) ⟨z4,z4,z4,z4,z4,z4,z4⟩ ?_
 iterate 6 (first | refine zt1 ?_ | refine zt3 ?_ | refine zt0 ?_ | refine zt2 ?_)
 refine zpN rfl (by rfl) (fun K hK=>?_);go_wp2_with fail;refine (hC.out _ _ own).mono ?_;rintro en w3 ⟨rfl,hs3⟩;clear hsx;go_wp2_with fail
 (first | refine ⟨fun _=>⟨z4,z4,z4,z4,z4,z4,z4⟩,?_⟩ | refine ⟨fun h=>absurd rfl h,?_⟩ | skip)
 iterate 5 (first | refine zt1 ?_ | refine zt3 ?_ | refine zt0 ?_ | refine zt2 ?_)
 refine zpN rfl (by rfl) (fun K hK=>?_);go_wp2_with fail
 (first | refine ⟨fun _=>⟨z4,z4,z4,z4,z4,z4,z4⟩,?_⟩ | refine ⟨fun h=>absurd rfl h,?_⟩ | skip)
 refine z0b ?_;go_wp2_with fail;refine z9 (w0:=w0) ?_;intro wx hsx;go_still_tail 8,(by kernel_rfl);change wpList _ _ _ _ _ wx.drew;go_wp2_with fail;refine (hS.out _ _ own).mono ?_;rintro en w4 ⟨rfl,hs4⟩;go_wp2_with fail
 go_end0
 exact ⟨rfl,z3⟩
theorem zbJ (b:Nat) (x:Fx) (c:Cf) (K:Kn) (h:Inv c K) (n:Nat) (ha:K.ln.active=n) (hn:n<c.ls.length) (hin:¬ K.iat<(lcg c n).code.length) (value:Int) (hvl:zG value) (w0 w:World) (F:HP) (hs:Sat w0 w (knP b x c K*F)) (hl:K.told.length≤99000) :
  Calls Tryz.prog 77 #[.pointer (some ⟨b,0,none⟩),.int .i64 n,.int .u32 value] w (zp w0 (.tuple #[]) (knP b x c (K.serve c n value)*F)):=by
 have cf:=h.cf;have hnl:=cf.nl;have hi:=z1k cf hn h.iat.1;have hcz:=z0s hi;have hcl:=(cf.l n hn).2;obtain ⟨m,hat⟩:=Int.eq_ofNat_of_zero_le h.iat.1;have hm300:m≤300:=by have:=h.iat.2;omega
 have hcyc:=h.cyc;obtain ⟨z,hz⟩:∃ z,z=zT (K.insL c n):=⟨_,rfl⟩;obtain ⟨y2,hy2⟩:∃ y2,y2=(K.cycle+z)%18446744073709551616:=⟨_,rfl⟩;have hp:K.paidL c n=K.wCycle y2:=by rw [hy2,hz];rfl
 have hzr:1≤z∧z≤1000:=by rw [hz];exact hcz
 have u1:IntKind.u64.wrap z=z:=by rw [IntKind.wrap_u64];omega
 have u2:IntKind.u64.wrap (K.cycle+z)=y2:=by rw [IntKind.wrap_u64,hy2]
 have u3:(K.cycle+z)%18446744073709551616=y2:=hy2.symm;have u4:IntKind.i64.wrap ((m:Int)+1)=(m:Int)+1:=by rw [IntKind.wrap_i64];omega
 have u5:IntKind.i64.wrap (64+(n:Int))=64+(n:Int):=by rw [IntKind.wrap_i64];omega
 have hC:=hid (fun (w:World) (G:HP) (hs:Sat w0 w (knP b x c K*G))=>z1g (K.insL c n) z hz.symm hi.form hi.k w0 w _ hs);haveI:Lt n c.ls.length:=⟨hn⟩;have a1:=x.mm.ad_pos (show 0<c.ls.length by omega);have a2:=x.c.cl.ad_pos (show 0<c.ls.length by omega);have i1:(n:Int)<(c.ls.length:Int):=by omega
 have d1:decide (n<c.ls.length)=true:=decide_eq_true hn;have d2:decide (m<(lcg c n).code.length)=false:=by rw [hat] at hin;simp;omega
 have hie:K.insL c n=⟨38,0,0,0,0,0⟩:=by unfold Kn.insL z0j;rw [if_neg hin]
 have hop:(K.insL c n).op=38:=by rw [hie]
 have hx:=hid (z8A (value:=value) hop);have hE:=hid (fun (kI:Int) (hk:kI=4) (w:World) (G:HP) (hs:Sat w0 w (knP b x c (K.paidL c n)*G))=>zN b x c _ 4 kI hk n 0 0 w0 w G hs cf (by decide) ⟨by omega,by omega⟩ ⟨by decide,by decide⟩ ⟨by decide,by decide⟩ (by show K.told.length≤100000;omega));rw [hp] at hx hE;rw [hie] at hC hop;rw [hx.out];clear h ha hi hx hcz hcl hcyc hz hy2 hp hzr hie hin hvl hl cf hop
 go_enter Tryz.func77,Tryz.ntmps77
 go_wp2_with fail;refine z9 (w0:=w0) ?_;intro wx hsx;clear hs;refine zw (fun w'=>w'.cell? ⟨b,1,none⟩=some (.int .u64 K.cycle)∧w'.cell? ⟨w.heap.size,0,none⟩=some (.int .i64 38)∧w'.cell? ⟨w.heap.size,1,none⟩=some (.int .i64 0)∧w'.cell? ⟨w.heap.size,2,none⟩=some (.int .i64 0)∧w'.cell? ⟨w.heap.size,3,none⟩=some (.int .i64 0)∧w'.cell? ⟨w.heap.size,4,none⟩=some (.int .i64 0)∧w'.cell? ⟨w.heap.size,5,none⟩=some (.int .u32 0)) 12 [(0,0),(1,0),(2,0),(3,0),(4,1),(5,1),(6,2),(7,0),(8,0),(9,0),(10,0),(11,0),(12,2)] (by kernel_rfl) (by kernel_rfl) (fun _ _ _ _ h=>h) ⟨z4,z4,z4,z4,z4,z4,z4⟩ ?_
 iterate 6 (first | refine zt1 ?_ | refine zt3 ?_ | refine zt0 ?_ | refine zt2 ?_)
 refine zpN rfl (by rfl) (fun K hK=>?_);go_wp2_with fail;refine (hC.out _ _ own).mono ?_;rintro en w3 ⟨rfl,hs3⟩;clear hsx;go_wp2_with fail
 (first | refine ⟨fun _=>⟨z4,z4,z4,z4,z4,z4,z4⟩,?_⟩ | refine ⟨fun h=>absurd rfl h,?_⟩ | skip)
 iterate 5 (first | refine zt1 ?_ | refine zt3 ?_ | refine zt0 ?_ | refine zt2 ?_)
 refine zpN rfl (by rfl) (fun K hK=>?_);go_wp2_with fail
 (first | refine ⟨fun _=>⟨z4,z4,z4,z4,z4,z4,z4⟩,?_⟩ | refine ⟨fun h=>absurd rfl h,?_⟩ | skip)
 refine z0b ?_;go_wp2_with fail;refine (hE.out _ rfl _ _ own).mono ?_;rintro en w4 ⟨rfl,hs4⟩;go_wp2_with fail;refine (z91 b x c _ w0 _ _ z6).mono ?_;rintro en w9 ⟨vv,rfl,hs9⟩;go_wp2_with fail
 go_end0
 exact ⟨rfl,z3⟩
theorem zkk (b:Nat) (x:Fx) (c:Cf) (K:Kn) (h:Inv c K) (n:Nat) (ha:K.ln.active=n) (hn:n<c.ls.length) (value:Int) (hvl:zG value) (w0 w:World) (F:HP) (hs:Sat w0 w (knP b x c K*F)) (hl:K.told.length≤99000) :
  Calls Tryz.prog 77 #[.pointer (some ⟨b,0,none⟩),.int .i64 n,.int .u32 value] w (zp w0 (.tuple #[]) (knP b x c (K.serve c n value)*F)):=by
 by_cases hin:K.iat<(lcg c n).code.length
 ·by_cases hop:(K.insL c n).op≤20
  ·by_cases hr0:(doI (K.insL c n) ((K.paidL c n).cx (64+n))).1=0
   ·exact zdX b x c K h n ha hn hin hop hr0 value hvl w0 w F hs hl
   ·exact zbI b x c K h n ha hn hin hop hr0 value hvl w0 w F hs hl
  ·by_cases hop2:(K.insL c n).op=38
   ·exact zap b x c K h n ha hn hin hop2 value hvl w0 w F hs hl
   ·exact zbK b x c K h n ha hn hin hop hop2 value hvl w0 w F hs hl
 ·exact zbJ b x c K h n ha hn hin value hvl w0 w F hs hl
def Kn.overs (K:Kn) (c:Cf) (l:List Int):Kn:=l.foldl (fun K id=>K.over c id) K
theorem ze9 {K:Kn} {c:Cf} {l:List Int} {k:Nat} (h:k<l.length):(K.overs c (l.take k)).over c (l[k]'h)=K.overs c (l.take (k+1)):=by
 unfold Kn.overs;rw [List.take_add_one,List.foldl_append];simp [h]
theorem zi9 {K:Kn} {c:Cf} (h:Inv c K) {l:List Int} (hp:∀ id∈l,z3P c K id) {k:Nat} (hk:k≤l.length) :
  Inv c (K.overs c (l.take k))∧(∀ id∈l,z3P c (K.overs c (l.take k)) id)∧(K.overs c (l.take k)).told.length≤K.told.length+3*k:=by
 have hq:∀ id∈l.take k,z3P c K id:=fun id hid=>hp id (List.mem_of_mem_take hid);refine ⟨z70 _ _ h hq,fun id hid=>?_,?_⟩
 ·have:∀ (l:List Int) (K:Kn),z6f K (K.overs c l):=by
   intro l
   induction l with
   | nil=>exact fun K=>z6f.refl K
   | cons a l ih=>exact fun K=>z6f.trans (z7j a) (ih _)
  exact z7r (this _ _) (hp id hid)
 ·have:=(z5l (l.take k) K h hq).len;rw [List.length_take,Nat.min_eq_left hk] at this;exact this
theorem ze0 (b:Nat) (x:Fx) (c:Cf) (K:Kn) (hf:K.full∨K.stopped=true) (w0 w:World) (F:HP) (hs:Sat w0 w (knP b x c K*F)) :
  Calls Tryz.prog 47 #[.pointer (some ⟨b,0,none⟩)] w (zp w0 (.slice none 0 0) (knP b x c (K.tick c)*F)):=by
 rw [z2Y hf];show Calls Tryz.prog 47 _ w (zp w0 (.slice none 0 0) (knP b x c (K.wStopped true)*F))
 by_cases h1:K.count=18446744073709551615
 ·go_enter Tryz.func47,Tryz.ntmps47
  go_wp2_with fail;go_ret;exact ⟨rfl,z3⟩
 ·have e1:(K.count==18446744073709551615)=false:=by simp [h1]
  by_cases h2:18446744073709486079<K.cycle
  ·have e2:decide (18446744073709486079<K.cycle)=true:=decide_eq_true h2;clear h1
   go_enter Tryz.func47,Tryz.ntmps47
   go_wp2_with fail;go_ret;exact ⟨rfl,z3⟩
  ·have e2:decide (18446744073709486079<K.cycle)=false:=decide_eq_false h2;have h3:K.stopped=true:=by
    rcases hf with hf | hf
    ·unfold Kn.full at hf;omega
    ·exact hf
   have e4:K.wStopped true=K:=by rw [← h3];exact Kn.wStopped_self K
   rw [e4];clear h1 h2 e4 hf
   go_enter Tryz.func47,Tryz.ntmps47
   go_wp2_with fail;go_ret;exact ⟨rfl,z3⟩
theorem zft (b:Nat) (x:Fx) (c:Cf) (K:Kn) (h:Inv c K) (hf:¬ K.full) (hst:K.stopped=false) (w0 w:World) (F:HP) (hs:Sat w0 w (knP b x c K*F)) (hl:K.told=[]) :
  Calls Tryz.prog 47 #[.pointer (some ⟨b,0,none⟩)] w (Ret w0 fun v=>z7 v (K.tick c).told*(knP b x c (K.tick c).take*F)):=by
 have hx:=z9J (c:=c) hf hst;have hI0:=z5p h hf;have hp0:=fun id hid=>z5y h (id:=id) hid;have hlen:=zdf h.S;have hS:=hid h.S;have hcn:=h.cnt;unfold Kn.full at hf;have e1:(K.count==18446744073709551615)=false:=by simp;omega
 have e2:decide (18446744073709486079<K.cycle)=false:=decide_eq_false (by omega);have e3:IntKind.u64.wrap (K.count+1)=K.count+1:=by rw [IntKind.wrap_u64];omega
 have e3':(K.count+1)%18446744073709551616=K.count+1:=by omega
 obtain ⟨K0,hK0⟩:∃ K0,K0=(K.wCount (K.count+1)).wS (z2X K.S):=⟨_,rfl⟩;have hx2:K.tick c=K0.overs c (z2H K.S):=by rw [hx,hK0];rfl
 have hI:Inv c K0:=by rw [hK0];exact hI0
 have hp:∀ id∈z2H K.S,z3P c K0 id:=by rw [hK0];exact hp0
 have hl0:K0.told=[]:=by rw [hK0];exact hl
 rw [hx2];clear hx hx2 hI0 hp0 hcn hf h hl;have hTickS:=hid (fun K' hS w G hs=>zko b x c K' w0 w G hs hS);have hKK:=hid hK0;obtain ⟨ov,hov⟩:∃ ov,ov=z2H K.S:=⟨_,rfl⟩;rw [← hov] at hp hlen ⊢;have Hov:=hid hov;clear hov
 go_enter Tryz.func47,Tryz.ntmps47
 go_wp2_with fail;refine (hTickS.out _ ?_ _ _ z6).mono ?_
 ·exact hS.out
 rintro en w1 ⟨lv,rfl,hs2⟩;have hs1:Sat w0 w1 (z5 .i64 lv ov*(knP b x c K0*F)):=by rw [hKK.out,Hov.out];exact hs2
 clear hs2 hs hTickS hS hKK hK0 e1 e2 e3 e3' hst Hov;obtain ⟨la,lc,rfl⟩:=hs1.slice_form;have hO:=hid (fun (k:Nat) (hk:k≤ov.length)=>zi9 hI hp hk);clear hI hp;have Hl0:=hid hl0;clear hl0;go_wp2_with fail
 go_loopw [44] (fun i wr=>∃ k:Nat,k≤ov.length∧i=.int .i64 k∧Sat w0 wr (z5 .i64 (.slice la ov.length lc) ov*(knP b x c (K0.overs c (ov.take k))*F))) (fun i _=>ov.length-(intOf i).toNat)
 case atStart=>exact ⟨0,Nat.zero_le _,rfl,hs1⟩
 case round =>
  obtain ⟨k,hk,rfl,hs3⟩:=hrel;clear hs1
  by_cases hlt:k<ov.length
  ·obtain ⟨I,P,hlen2⟩:=hO.out k hk;have hnx:=hid (ze9 (K:=K0) (c:=c) hlt);have hpd:=P _ (List.getElem_mem hlt);obtain ⟨id,hv⟩:=Int.eq_ofNat_of_zero_le hpd.1;obtain ⟨K1,hK1⟩:∃ K1,K1=K0.overs c (ov.take k):=⟨_,rfl⟩;rw [← hK1] at I P hlen2 hpd hs3;rw [← hK1,hv] at hnx;rw [hv] at hpd;clear P hK1;have hl1:K1.told.length≤800:=by have:=Hl0.out;rw [this] at hlen2;simp at hlen2;omega
   clear hlen2;obtain ⟨a7,cap7,g,off,e7,_,_,ha7,_⟩:=hs3.rdN;obtain ⟨rfl, -,rfl⟩:la=a7∧ov.length=ov.length∧lc=cap7:=by simpa using e7
   obtain rfl:=ha7 (by intro h;simp [h] at hlt);clear ha7 e7;haveI:Lt k ov.length:=⟨hlt⟩;have d2:decide (k<ov.length)=true:=decide_eq_true hlt;obtain ⟨_,p1,p2,p3⟩:=hpd;have hnt:=I.cf.nt;have hnm:=I.cf.nm
   by_cases g1:(id:Int)<64
   ·have hR:=hid (fun (w:World) (G:HP) (hs:Sat w0 w (knP b x c K1*G))=>zfn b x c K1 id I (by have:=p1 g1;omega) w0 w G hs (by omega));have he:K1.over c id=K1.release c id:=by unfold Kn.over;rw [if_pos g1];rfl
    rw [he] at hnx;have dg:decide ((id:Int)<64)=true:=decide_eq_true g1;clear p1 p2 p3 I he;go_wp2_with fail;refine (hR.out _ _ own).mono ?_;rintro en w4 ⟨rfl,hs4⟩;clear hs3;go_wp2_with fail;go_roundw
    case rel=>exact ⟨k+1,by omega,by go_num,by rw [← hnx.out];exact z3⟩
    case measure=>simp [intOf];omega
   ·have dg:decide ((id:Int)<64)=false:=decide_eq_false g1
    by_cases g2:(id:Int)<128
    ·have h2:=p2 (by omega) g2;obtain ⟨u,hu⟩:=Int.eq_ofNat_of_zero_le (show 0≤(id:Int)-64 by omega);rw [hu,Int.toNat_natCast] at h2;have hR:=hid (fun (w:World) (G:HP) (hs:Sat w0 w (knP b x c K1*G))=>zfu b x c K1 u I (by omega) h2.2 w0 w G hs (by omega));have he:K1.over c id=K1.timeout c u:=by unfold Kn.over;rw [if_neg g1,if_pos g2,hu];rfl
     rw [he] at hnx;have dg2:decide ((id:Int)<128)=true:=decide_eq_true g2;have q1:IntKind.i64.wrap ((id:Int)-64)=(u:Int):=by rw [IntKind.wrap_i64];omega
     clear p1 p2 p3 I he h2 g1 hu;go_wp2_with fail;refine (hR.out _ _ own).mono ?_;rintro en w4 ⟨rfl,hs4⟩;clear hs3;go_wp2_with fail;go_roundw
     case rel=>exact ⟨k+1,by omega,by go_num,by rw [← hnx.out];exact z3⟩
     case measure=>simp [intOf];omega
    ·have dg2:decide ((id:Int)<128)=false:=decide_eq_false g2;obtain ⟨m,hm⟩:=Int.eq_ofNat_of_zero_le (show 0≤(id:Int)-128 by omega);have hml:m<c.timers.length:=by have:=p3 (by omega);omega
     have ht:=I.cf.timers (lg c.timers m) (ze1 hml);obtain ⟨s,hs0⟩:=Int.eq_ofNat_of_zero_le ht.1;have hsl:s<c.sems.length:=by omega
     haveI:Lt m c.timers.length:=⟨hml⟩;have a2:=x.c.cm.ad_pos (show 0<c.timers.length by omega);have i2:(m:Int)<(c.timers.length:Int):=by omega
     have d3:decide (m<c.timers.length)=true:=decide_eq_true hml;have q1:IntKind.i64.wrap ((id:Int)-128)=(m:Int):=by rw [IntKind.wrap_i64];omega
     have cf:=I.cf;have I2:=zl I 18 m 0 0;have l2:=zW (c:=c) K1 18 m 0 0;have he:K1.over c id=if (K1.tell c 18 m 0 0).postE s≠0 then ((K1.tell c 18 m 0 0).post c 80 s).tell c 23 80 ((K1.tell c 18 m 0 0).postE s) 26 else (K1.tell c 18 m 0 0).post c 80 s:=by
      unfold Kn.over;rw [if_neg g1,if_neg g2,hm];simp only [Int.toNat_natCast,hs0]
     have hA:=hid (fun (kI:Int) (hk:kI=18) (w:World) (G:HP) (hs:Sat w0 w (knP b x c K1*G))=>zN b x c K1 18 kI hk m 0 0 w0 w G hs cf (by decide) ⟨by omega,by omega⟩ ⟨by decide,by decide⟩ ⟨by decide,by decide⟩ (by omega));obtain ⟨K2,hK2⟩:∃ K2,K2=K1.tell c 18 m 0 0:=⟨_,rfl⟩;rw [← hK2] at he I2 l2 hA;have hB:=hid (fun (w:World) (G:HP) (hs:Sat w0 w (knP b x c K2*G))=>zfk b x c K2 80 s I2 (by decide) hsl w0 w G hs (by omega));have hpe:K2.postE s=0∨K2.postE s=4∨(0≤K2.postE s∧K2.postE s≤16):=by unfold Kn.postE postE;repeat' split<;>simp
     have l3:=(z6S I2 (who:=80) (by omega) hsl).len
     by_cases ge:K2.postE s=0
     ·rw [if_neg (by simp [ge])] at he;rw [he] at hnx;rw [ge] at hB;clear p1 p2 p3 I he I2 l2 l3 g1 g2 hm hK2 ht hpe ge cf;go_wp2_with fail;refine (hA.out _ rfl _ _ own).mono ?_;rintro en w4 ⟨rfl,hs4⟩;clear hs3;go_wp2_with fail;refine (hB.out _ _ own).mono ?_;rintro en w5 ⟨rfl,hs5⟩;clear hs4;go_wp2_with fail;go_roundw
      case rel=>exact ⟨k+1,by omega,by go_num,by rw [← hnx.out];exact z3⟩
      case measure=>simp [intOf];omega
     ·rw [if_pos ge] at he;rw [he] at hnx;obtain ⟨er,hr⟩:∃ er,er=K2.postE s:=⟨_,rfl⟩;rw [← hr] at hB hnx ge hpe;have nr:(er==0)=false:=by simp [ge]
      have hC:=hid (fun (kI:Int) (hk:kI=23) (w:World) (G:HP) (hs:Sat w0 w (knP b x c (K2.post c 80 s)*G))=>zN b x c (K2.post c 80 s) 23 kI hk 80 er 26 w0 w G hs cf (by decide) ⟨by decide,by decide⟩ ⟨by omega,by omega⟩ ⟨by decide,by decide⟩ (by omega));clear p1 p2 p3 I he I2 l2 l3 g1 g2 hm hK2 ht hpe ge cf hr;go_wp2_with fail;refine (hA.out _ rfl _ _ own).mono ?_;rintro en w4 ⟨rfl,hs4⟩;clear hs3;go_wp2_with fail;refine (hB.out _ _ own).mono ?_;rintro en w5 ⟨rfl,hs5⟩;clear hs4;go_wp2_with fail;refine (hC.out _ rfl _ _ own).mono ?_;rintro en w6 ⟨rfl,hs6⟩;clear hs5;go_wp2_with fail;go_roundw
      case rel=>exact ⟨k+1,by omega,by go_num,by rw [← hnx.out];exact z3⟩
      case measure=>simp [intOf];omega
  ·have hk':k=ov.length:=by omega
   subst hk';have d1:decide (ov.length<ov.length)=false:=by simp
   rw [List.take_length] at hs3;clear hO hlt;go_wp2_with fail;refine (zaw b x c (K0.overs c ov) w0 _ _ own).mono ?_;rintro en w5 ⟨vv,rfl,hs5⟩;go_wp2_with fail
   all_goals
    go_ret;refine ⟨_,rfl,?_⟩;show Sat w0 _ (z7 vv (K0.overs c ov).told*(knP b x c (K0.overs c ov).take*F));exact z3
theorem zbG (b:Nat) (x:Fx) (c:Cf) (K:Kn) (y:Nat) (hf:K.stopped=true) (w0 w:World) (F:HP) (hs:Sat w0 w (knP b x c K*F)) :
  Calls Tryz.prog 48 #[.pointer (some ⟨b,0,none⟩),.int .u32 y] w (zp w0 (.slice none 0 0) (knP b x c K*F)):=by
 go_enter Tryz.func48,Tryz.ntmps48
 go_wp2_with fail;go_ret;exact ⟨rfl,z3⟩
theorem z8v (c:Cf) (K:Kn) (a d:Nat):∀ n,(K.raiseN c a d n).told.length≤K.told.length+n
 | 0=>Nat.le_refl _
 | n+1=>by
  have h:=z8v c K a d n;unfold Kn.raiseN;dsimp only
  split
  ·have:=zW (c:=c) (K.raiseN c a d n) 1 n (if d.testBit n then 1 else 0) 0;omega
  ·omega
theorem zdW (b:Nat) (x:Fx) (c:Cf) (K:Kn) (y:Nat) (hy:y<4294967296) (h:Inv c K) (hst:K.stopped=false) (w0 w:World) (F:HP) (hs:Sat w0 w (knP b x c K*F)) (hl:K.told=[]) :
  Calls Tryz.prog 48 #[.pointer (some ⟨b,0,none⟩),.int .u32 y] w (Ret w0 fun v=>z7 v (K.raise c y).told*(knP b x c (K.raise c y).take*F)):=by
 have hnl:=h.cf.nl;have cf:=hid h.cf;have hR:=hid (fun w G hs=>zhy b x c K w0 w G hs (z6o h) y hy);obtain ⟨came,hc⟩:∃ n,n=y &&& K.ln.all:=⟨_,rfl⟩;obtain ⟨again,ha⟩:∃ n,n=came &&& K.ln.pending:=⟨_,rfl⟩;obtain ⟨K0,hK0⟩:∃ K0,K0=K.wLn (K.ln.raise y):=⟨_,rfl⟩;have hx:K.raise c y=K0.raiseN c came again c.ls.length:=by
  unfold Kn.raise;rw [if_neg (by simp [hst]),ha,hc,hK0];rfl
 have cb:came<4294967296:=by rw [hc];exact Nat.lt_of_le_of_lt Nat.and_le_left hy
 have ab:again<4294967296:=by rw [ha];exact Nat.lt_of_le_of_lt Nat.and_le_left cb
 have hlen:=hid (z8v c K0 came again);rw [hx];rw [← hc,← ha,← hK0] at hR;have hl0:K0.told=[]:=by rw [hK0];exact hl
 clear hx hK0 hl h hc ha
 go_enter Tryz.func48,Tryz.ntmps48
 go_wp2_with fail;refine (hR.out _ _ z6).mono ?_;rintro en w1 ⟨rfl,hs1⟩;clear hs;go_wp2_with fail
 go_loopw [31] (fun i wr=>∃ k:Nat,k≤c.ls.length∧i=.int .i64 k∧Sat w0 wr (knP b x c (K0.raiseN c came again k)*F)) (fun i _=>c.ls.length-(intOf i).toNat)
 case atStart=>exact ⟨0,Nat.zero_le _,rfl,hs1⟩
 case round =>
  obtain ⟨k,hk,rfl,hs3⟩:=hrel;clear hs1
  by_cases hlt:k<c.ls.length
  ·have hln:=hlen.out k;obtain ⟨K1,hK1⟩:∃ K1,K1=K0.raiseN c came again k:=⟨_,rfl⟩;have hst:K0.raiseN c came again (k+1)=if came.testBit k then K1.tell c 1 k (if again.testBit k then 1 else 0) 0 else K1:=by rw [hK1];rfl
   rw [← hK1] at hs3 hln;have hT:=hid (fun (v:Int) (hv:v=0∨v=1) (kI:Int) (hkI:kI=1) (w:World) (G:HP) (hs:Sat w0 w (knP b x c K1*G))=>zN b x c K1 1 kI hkI k v 0 w0 w G hs cf.out (by decide) ⟨by omega,by omega⟩ ⟨by omega,by omega⟩ ⟨by decide,by decide⟩ (by rw [hl0] at hln;simp at hln;omega));have d1:decide (k<c.ls.length)=true:=decide_eq_true hlt;have d2:decide (k<32)=true:=decide_eq_true (by omega);clear hK1 hln hlen
   cases e:came.testBit k
   ·rw [if_neg (by simp [e])] at hst;have Hst:=hid hst;have e1:=zcB cb e;clear hst e;go_wp2_with fail;go_roundw
    case rel=>exact ⟨k+1,by omega,by go_num,by rw [Hst.out];exact z6⟩
    case measure=>simp [intOf];omega
   ·rw [if_pos e] at hst;have e1:=zeG cb e
    cases f:again.testBit k
    ·rw [f] at hst;have Hst:=hid hst;have e2:bits .and .u32 ((again:Int) / 2^k) 1=0:=by rw [z5d again k ab,f];rfl
     clear hst e f;go_wp2_with fail;refine (hT.out 0 (.inl rfl) _ rfl _ _ z6).mono ?_;rintro en w2 ⟨rfl,hs4⟩;go_wp2_with fail;go_roundw
     case rel=>exact ⟨k+1,by omega,by go_num,by rw [Hst.out];exact hs4⟩
     case measure=>simp [intOf];omega
    ·rw [f] at hst;have Hst:=hid hst;have e2:bits .and .u32 ((again:Int) / 2^k) 1=1:=by rw [z5d again k ab,f];rfl
     clear hst e f;go_wp2_with fail;refine (hT.out 1 (.inr rfl) _ rfl _ _ z6).mono ?_;rintro en w2 ⟨rfl,hs4⟩;go_wp2_with fail;go_roundw
     case rel=>exact ⟨k+1,by omega,by go_num,by rw [Hst.out];exact hs4⟩
     case measure=>simp [intOf];omega
  ·have hk':k=c.ls.length:=by omega
   subst hk';have d1:decide (c.ls.length<c.ls.length)=false:=by simp
   clear hlen hlt;go_wp2_with fail;refine (zaw b x c (K0.raiseN c came again c.ls.length) w0 _ _ own).mono ?_;rintro en w5 ⟨vv,rfl,hs5⟩;go_wp2_with fail
   all_goals
    go_ret;refine ⟨_,rfl,?_⟩;show Sat w0 _ (z7 vv (K0.raiseN c came again c.ls.length).told*(knP b x c (K0.raiseN c came again c.ls.length).take*F));exact z3
section
variable (b:Nat) (x:Fx) (c:Cf) (K:Kn) (w0 w:World) (F:HP) (hs:Sat w0 w (knP b x c K*F))
include hs
theorem znm:Calls Tryz.prog 50 #[.pointer (some ⟨b,0,none⟩)] w (zp w0 (.int .u64 K.reads) (knP b x c K*F)):=by
 go_enter Tryz.func50,Tryz.ntmps50
 go_wp2_with fail;go_ret;exact ⟨rfl,z3⟩
theorem zfg (value:Int) (hf:K.stopped=true):Calls Tryz.prog 49 #[.pointer (some ⟨b,0,none⟩),.int .u32 value] w (zp w0 (.slice none 0 0) (knP b x c K*F)):=by
 go_enter Tryz.func49,Tryz.ntmps49
 go_wp2_with fail;go_ret;exact ⟨rfl,z3⟩
end
section
variable (w0 w:World) (P:HP) (hs:Sat w0 w P)
include hs
end
section
variable {c:Cf} {K:Kn} {value:Int}
theorem zeC (hst:K.stopped=false) (ha:¬ K.ln.active=255):K.act c value=K.serve c K.ln.active.toNat value:=by
 unfold Kn.act;rw [if_neg (by simp [hst]),if_pos ha]
theorem zeA (hst:K.stopped=false) (ha:K.ln.active=255) (hr:K.ln.ready=true):K.act c value=((((K.wLn K.ln.enter).tell c 3 K.ln.enter.active 0 0).cost 6).wIat 0).wIrg r80:=by
 unfold Kn.act;rw [if_neg (by simp [hst]),if_neg (by simp [ha]),if_pos hr];rfl
theorem zh0 (hst:K.stopped=false) (ha:K.ln.active=255) (hr:K.ln.ready=false):K.act c value=K.dispatch c value:=by
 unfold Kn.act;rw [if_neg (by simp [hst]),if_neg (by simp [ha]),if_neg (by simp [hr])]
end
theorem zhw (b:Nat) (x:Fx) (c:Cf) (K:Kn) (h:Inv c K) (hst:K.stopped=false) (value:Int) (hvl:zG value) (w0 w:World) (hT:Tab w0) (F:HP) (hs:Sat w0 w (knP b x c K*F)) (hl:K.told=[]) :
  Calls Tryz.prog 49 #[.pointer (some ⟨b,0,none⟩),.int .u32 value] w (Ret w0 fun v=>z7 v (K.act c value).told*(knP b x c (K.act c value).take*F)):=by
 have hln:K.told.length≤99000:=by rw [hl];simp
 have cf:=h.cf;have hnl:=cf.nl
 by_cases ha:K.ln.active=255
 ·have hE:=hid (fun w G hs=>zhx b x c K w0 w G hs (z6o h) hT)
  by_cases hr:K.ln.ready=true
  ·rw [zeA hst ha hr];have hr':K.ln.active=255∧K.ln.pending &&& K.ln.mask≠0:=by unfold Ln.ready at hr;simpa using hr
   have hsm:K.ln.pending &&& K.ln.mask<2^c.ls.length:=z3w h.msk;have hlow:low (K.ln.pending &&& K.ln.mask)<c.ls.length:=zfL hr'.2 hsm (by omega);have he:K.ln.enter.active=low (K.ln.pending &&& K.ln.mask):=by unfold Ln.enter;rw [if_pos hr]
   obtain ⟨m,hm⟩:∃ m:Nat,m=low (K.ln.pending &&& K.ln.mask):=⟨_,rfl⟩;rw [← hm] at he hlow;rw [he];have hA:=hid (fun (kI:Int) (hk:kI=3) (w:World) (G:HP) (hs:Sat w0 w (knP b x c (K.wLn K.ln.enter)*G))=>zN b x c _ 3 kI hk m 0 0 w0 w G hs cf (by decide) ⟨by omega,by omega⟩ ⟨by decide,by decide⟩ ⟨by decide,by decide⟩ (by show K.told.length≤100000;omega));obtain ⟨y1,hy1⟩:∃ y1,y1=(((K.wLn K.ln.enter).tell c 3 m 0 0).cycle+6)%18446744073709551616:=⟨_,rfl⟩;have v1:IntKind.u64.wrap (((K.wLn K.ln.enter).tell c 3 m 0 0).cycle+6)=y1:=by rw [IntKind.wrap_u64,hy1]
   have v2:(((K.wLn K.ln.enter).tell c 3 m 0 0).cycle+6)%18446744073709551616=y1:=hy1.symm;have hc:((K.wLn K.ln.enter).tell c 3 m 0 0).cost 6=((K.wLn K.ln.enter).tell c 3 m 0 0).wCycle y1:=by rw [hy1];rfl
   rw [hc];clear hm hsm hr' hlow hc hy1 hT hvl cf hl hln h
   go_enter Tryz.func49,Tryz.ntmps49
   go_wp2_with fail;refine (z4L b x c K w0 _ _ own).mono ?_;rintro en w1 ⟨rfl,hs1⟩;clear hs;go_wp2_with fail;refine (hE.out _ _ z6).mono ?_;rintro en w2 ⟨rfl,hs2⟩;clear hs1;go_wp2_with fail;refine (hA.out _ rfl _ _ z6).mono ?_;rintro en w3 ⟨rfl,hs3⟩;clear hs2;obtain ⟨⟨v540,hc540⟩,hf540⟩:=z73 hs3;go_wp2_with fail;refine (zaw b x c _ w0 _ _ z6).mono ?_;rintro en w4 ⟨v,rfl,hs4⟩;go_wp2_with fail;go_ret;exact ⟨_,rfl,hs4⟩
  ·have hr:K.ln.ready=false:=by simpa using hr
   rw [zh0 hst ha hr];have hen:K.wLn K.ln.enter=K:=by unfold Ln.enter;rw [if_neg (by simp [hr])];rfl
   rw [hen] at hE;have hD:=hid (fun w G hs=>zdR b x c K h value hvl w0 w hT G hs hln);clear hT hvl cf hl hln h hen
   go_enter Tryz.func49,Tryz.ntmps49
   go_wp2_with fail;refine (z4L b x c K w0 _ _ own).mono ?_;rintro en w1 ⟨rfl,hs1⟩;clear hs;go_wp2_with fail;refine (hE.out _ _ z6).mono ?_;rintro en w2 ⟨rfl,hs2⟩;clear hs1;go_wp2_with fail;refine (hD.out _ _ z6).mono ?_;rintro en w3 ⟨rfl,hs3⟩;clear hs2;go_wp2_with fail;refine (zaw b x c _ w0 _ _ z6).mono ?_;rintro en w4 ⟨v,rfl,hs4⟩;go_wp2_with fail;go_ret;exact ⟨_,rfl,hs4⟩
 ·rw [zeC hst ha];obtain ⟨a1,a2,_⟩:=h.act.resolve_left ha;obtain ⟨n,hn⟩:=Int.eq_ofNat_of_zero_le a1;rw [hn,Int.toNat_natCast];have e1:((n:Int)==255)=false:=by rw [hn] at ha;simp [ha]
  have hS:=hid (fun (w:World) (G:HP) (hs:Sat w0 w (knP b x c K*G))=>zkk b x c K h n hn (by omega) value hvl w0 w G hs hln);clear hT hvl cf hl hln h ha a1 a2
  go_enter Tryz.func49,Tryz.ntmps49
  go_wp2_with fail;refine (z4L b x c K w0 _ _ own).mono ?_;rintro en w1 ⟨rfl,hs1⟩;clear hs;go_wp2_with fail;refine (hS.out _ _ z6).mono ?_;rintro en w2 ⟨rfl,hs2⟩;clear hs1;go_wp2_with fail;refine (zaw b x c _ w0 _ _ z6).mono ?_;rintro en w4 ⟨v,rfl,hs4⟩;go_wp2_with fail;go_ret;exact ⟨_,rfl,hs4⟩
section
variable {c:Cf} {K:Kn}
theorem ziL (h:Inv c K) (hl:K.told=[]):(K.tick c).told.length≤768:=by
 by_cases hf:K.full∨K.stopped=true
 ·rw [z2Y hf];show K.told.length≤768;rw [hl];simp
 ·have g:=(zab h (fun a=>hf (.inl a)) (by simpa using fun a=>hf (.inr a))).len;have e:({ K with count:=K.count+1,S:=z2X K.S }:Kn).told=[]:=hl;rw [e] at g;simpa using g
theorem zga (h:Inv c K) (hl:K.told=[]) (y:Nat):(K.raise c y).told.length≤16:=by
 have g:=(z8f h y).len;rw [hl] at g;simpa using g
theorem zjE (h:Inv c K) (hl:K.told=[]) (value:Int):(K.act c value).told.length≤162:=by
 cases hz:K.stopped
 ·have g:=(zcS h hz (value:=value)).len;rw [hl] at g;simpa using g
 ·have e:K.act c value=K:=by unfold Kn.act;rw [if_pos hz]
  rw [e,hl];simp
end
theorem z7M {K:Kn} (h:K.told=[]):K.take=K:=by
 unfold Kn.take;rw [← h]
section
variable (b:Nat) (x:Fx) (c:Cf) (K:Kn) (h:Inv c K) (hl:K.told=[]) (w0 w:World) (F:HP) (hs:Sat w0 w (knP b x c K*F))
include h hl hs
theorem zmd:Calls Tryz.prog 47 #[.pointer (some ⟨b,0,none⟩)] w (Ret w0 fun v=>z7 v (K.tick c).told*(knP b x c (K.tick c).take*F)):=by
 by_cases hf:K.full∨K.stopped=true
 ·have e:(K.tick c).told=[]:=by rw [z2Y hf];exact hl
  refine (ze0 b x c K hf w0 w F hs).mono ?_;rintro en w' ⟨rfl,h'⟩;refine ⟨_,rfl,?_⟩;show Sat w0 w' (z7 _ (K.tick c).told*_);rw [z7M e,e,z03];exact h'.perm (zm _).symm
 ·exact zft b x c K h (fun a=>hf (.inl a)) (by simpa using fun a=>hf (.inr a)) w0 w F hs hl
theorem zkh (y:Nat) (hy:y<4294967296):Calls Tryz.prog 48 #[.pointer (some ⟨b,0,none⟩),.int .u32 y] w (Ret w0 fun v=>z7 v (K.raise c y).told*(knP b x c (K.raise c y).take*F)):=by
 cases hz:K.stopped
 ·exact zdW b x c K y hy h hz w0 w F hs hl
 ·have e0:K.raise c y=K:=by unfold Kn.raise;rw [if_pos hz]
  refine (zbG b x c K y hz w0 w F hs).mono ?_;rintro en w' ⟨rfl,h'⟩;refine ⟨_,rfl,?_⟩;show Sat w0 w' (z7 _ (K.raise c y).told*_);rw [e0,z7M hl,hl,z03];exact h'.perm (zm _).symm
theorem znk (value:Int) (hvl:zG value) (hT:Tab w0):Calls Tryz.prog 49 #[.pointer (some ⟨b,0,none⟩),.int .u32 value] w (Ret w0 fun v=>z7 v (K.act c value).told*(knP b x c (K.act c value).take*F)):=by
 cases hz:K.stopped
 ·exact zhw b x c K h hz value hvl w0 w hT F hs hl
 ·have e0:K.act c value=K:=by unfold Kn.act;rw [if_pos hz]
  refine (zfg b x c K w0 w F hs value hz).mono ?_;rintro en w' ⟨rfl,h'⟩;refine ⟨_,rfl,?_⟩;show Sat w0 w' (z7 _ (K.act c value).told*_);rw [e0,z7M hl,hl,z03];exact h'.perm (zm _).symm
end
theorem z8n (b:Nat) (x:Fx) (c:Cf) (K:Kn) (h:Inv c K) (hl:K.told=[]) (y:Nat) (hy:y<4294967296) (value:Int) (hvl:zG value) (w0 w:World) (hT:Tab w0) (F:HP) (hs:Sat w0 w (knP b x c K*F)) :
  Calls Tryz.prog 27 #[.pointer (some ⟨b,0,none⟩),.int .u32 y,.int .u32 value] w (Ret w0 fun v=>z7 v (K.evs c y value)*(knP b x c (K.step c y value)*F)):=by
 have i1:=z3b (z8Z h);have i2:=z3b (z71 i1 y);have l1:=ziL h hl;have l2:=zga i1 rfl y;have l3:=zjE i2 rfl value;have hA:=hid (fun w G hs=>zmd b x c K h hl w0 w G hs);have hB:=hid (fun w G hs=>zkh b x c _ i1 rfl w0 w G hs y hy);have hC:=hid (fun (w:World) (G:HP) (hs:Sat w0 w (knP b x c ((K.tick c).take.raise c y).take*G))=>znk b x c _ i2 rfl w0 w G hs value hvl hT);obtain ⟨A,eA⟩:∃ A,A=(K.tick c).told:=⟨_,rfl⟩;obtain ⟨B,eB⟩:∃ B,B=((K.tick c).take.raise c y).told:=⟨_,rfl⟩;obtain ⟨C,eC⟩:∃ C,C=(((K.tick c).take.raise c y).take.act c value).told:=⟨_,rfl⟩;have hx:Hid (K.evs c y value=(A++B)++C):=by unfold Hid;rw [eA,eB,eC,List.append_assoc];rfl
 rw [hx.out];rw [← eA] at l1 hA;rw [← eB] at l2 hB;rw [← eC] at l3 hC;have hy':Hid (K.step c y value=(((K.tick c).take.raise c y).take.act c value).take):=rfl;rw [hy'.out];clear eA eB eC hx i1 i2 hT h hl;generalize ((K.tick c).take.raise c y).take.act c value=K3 at *;generalize (K.tick c).take.raise c y=K2 at *;generalize K.tick c=K1 at *;clear hy'
 go_enter Tryz.func27,Tryz.ntmps27
 go_wp2_with fail;refine (hA.out _ _ own).mono ?_;rintro en w1 ⟨v1,rfl,hs1⟩;obtain ⟨aa,ac,rfl⟩:=hs1.slice_form;clear hs;go_wp2_with fail;refine (hB.out _ _ own).mono ?_;rintro en w2 ⟨v2,rfl,hs2⟩;obtain ⟨ba,bc,rfl⟩:=hs2.slice_form;clear hs1;go_wp2_with (first | (at_builtin;refine zA rfl rfl rfl rfl (by omega) ?_;intro ap ac aL aw ahL ah1 ah2 ahs _) | (refine z07 rfl rfl rfl rfl (by omega) (by omega) ?_;intro px pc pL php phL ph1 ph2) | (refine z0r rfl rfl rfl rfl (by omega) (by omega) ?_;intro px pc pL php phL ph1 ph2));refine (hC.out _ _ own).mono ?_;rintro en w3 ⟨v3,rfl,hs3⟩;obtain ⟨ca,cc,rfl⟩:=hs3.slice_form;clear hs2;go_wp2_with (first | (at_builtin;refine zA rfl rfl rfl rfl (by omega) ?_;intro ap ac aL aw ahL ah1 ah2 ahs _) | (refine z07 rfl rfl rfl rfl (by omega) (by omega) ?_;intro px pc pL php phL ph1 ph2) | (refine z0r rfl rfl rfl rfl (by omega) (by omega) ?_;intro px pc pL php phL ph1 ph2));go_ret;refine ⟨_,rfl,?_⟩;unfold Hid at *
 subst_vars
 show Sat w0 _ (z7 (.slice ap _ ac) (A++B++C)*(knP b x c K3.take*F));exact z3
def wdP (g b:Nat) (y:Fx) (c:Cf) (ta:Option Addr) (tc:Nat) (W:Wd):HP:=ex fun aa:Option Addr=>ex fun ac:Nat =>
 pts g 0 [.pointer (some ⟨b,0,none⟩),.slice aa W.ar.length ac,.slice ta W.tape.length tc,.int .i64 W.done,.int .i64 W.steps]*(z7 (.slice aa W.ar.length ac) W.ar*(z5 .u32 (.slice ta W.tape.length tc) W.tape*knP b y c W.K))
theorem zqf {g b:Nat} {y:Fx} {c:Cf} {ta:Option Addr} {tc:Nat} {W:Wd} {w0 w:World} {F:HP} (hs:Sat w0 w (wdP g b y c ta tc W*F)):∃ aa ac,Sat w0 w (pts g 0 [.pointer (some ⟨b,0,none⟩),.slice aa W.ar.length ac,.slice ta W.tape.length tc,.int .i64 W.done,.int .i64 W.steps]*(z7 (.slice aa W.ar.length ac) W.ar*(z5 .u32 (.slice ta W.tape.length tc) W.tape*(knP b y c W.K*F)))):=by
 obtain ⟨aa,h1⟩:=hs.ex_out;obtain ⟨ac,h2⟩:=h1.ex_out;exact ⟨aa,ac,h2.perm (by ac_rfl)⟩
theorem zQe {g b:Nat} {y:Fx} {c:Cf} {ta:Option Addr} {tc:Nat} {W:Wd} {w0 w:World} {F:HP} {aa:Option Addr} {ac:Nat} (hs:Sat w0 w (pts g 0 [.pointer (some ⟨b,0,none⟩),.slice aa W.ar.length ac,.slice ta W.tape.length tc,.int .i64 W.done,.int .i64 W.steps]*(z7 (.slice aa W.ar.length ac) W.ar*(z5 .u32 (.slice ta W.tape.length tc) W.tape*(knP b y c W.K*F))))):Sat w0 w (wdP g b y c ta tc W*F) :=
 Sat.ex_in aa (Sat.ex_in ac (hs.perm (by ac_rfl)))
theorem zrM (g b:Nat) (y:Fx) (c:Cf) (ta:Option Addr) (tc:Nat) (W:Wd) (ho:zrx W.ar) (hd:W.done≤65536) (w0 w:World) (F:HP) (hs:Sat w0 w (wdP g b y c ta tc W*F)) :
  Calls Tryz.prog 28 #[.pointer (some ⟨g,0,none⟩)] w (zp w0 (.int .u32 W.bits) (wdP g b y c ta tc { W with ar:=W.rest }*F)):=by
 obtain ⟨aa,ac,hs⟩:=zqf hs;obtain ⟨K,A,T,d,st⟩:=W;dsimp only at hs ho hd;have Ho:=hid ho;clear ho
 go_enter Tryz.func28,Tryz.ntmps28
 go_wp2_with fail;refine z9 (w0:=w0) ?_;intro ww hsw;clear hs
 go_loopg [3] (A.length) (fun k bv wr=>∃ (u:Nat) (l:List Ar) (aa:Option Addr) (ac:Nat),l.length=k∧u<65536∧bv=.int .u32 u∧Hid (zrx l∧zq7 (d+1) u l=zq7 (d+1) 0 A)∧Sat w0 wr (pts g 0 [.pointer (some ⟨b,0,none⟩),.slice aa l.length ac,.slice ta T.length tc,.int .i64 d,.int .i64 st]*(z7 (.slice aa l.length ac) l*(z5 .u32 (.slice ta T.length tc) T*(knP b y c K*F)))))
 case atStart=>exact ⟨0,A,aa,ac,rfl,by decide,rfl,hid ⟨Ho.out,rfl⟩,z3⟩
 case round =>
  obtain ⟨u,l,aa,ac,hlk,hu,rfl,hb,hsr⟩:=hrel;clear hsw
  rcases l with _ | ⟨a,l⟩
  ·have f1:decide (0<0)=false:=rfl;clear hlk;go_wp2_with fail;go_quiet (fail);go_wp2_with fail;go_ret;have hb2:=hb.out.2;have e1:(zq7 ((d:Int)+1) 0 A)=(u,[]):=hb2.symm;refine ⟨?_,?_⟩
   ·show Ending.returned (.int .u32 (u:Int))=.returned (.int .u32 (((zq7 ((d:Int)+1) 0 A).1:Nat):Int));rw [e1]
   ·refine zQe (aa:=aa) (ac:=ac) ?_;show Sat w0 _ (pts g 0 [.pointer (some ⟨b,0,none⟩),.slice aa (zq7 ((d:Int)+1) 0 A).2.length ac,.slice ta T.length tc,.int .i64 d,.int .i64 st]*(z7 (.slice aa (zq7 ((d:Int)+1) 0 A).2.length ac) (zq7 ((d:Int)+1) 0 A).2*(z5 .u32 (.slice ta T.length tc) T*(knP b y c K*F))));rw [e1];exact z3
  ·obtain ⟨ab,ao,rfl⟩:=hsr.someR aa (a::l).length ac (E:=zqj) (l:=a::l) (by simp);have Hk:=hid hlk;clear hlk;have f1:decide (0<l.length+1)=true:=by simp
   have f2:decide ((0:Int)<(l.length:Int)+1)=true:=decide_eq_true (by omega);haveI:Lt 0 (a::l).length:=⟨by simp⟩;obtain ⟨sx,al⟩:=a;haveI x0:z1v (E:=zqj) ((⟨sx,al⟩::l:List Ar).getD 0 ar0) 0 (.int .i64 sx):=⟨rfl⟩;haveI x1:z1v (E:=zqj) ((⟨sx,al⟩::l:List Ar).getD 0 ar0) 1 (.int .i64 al):=⟨rfl⟩
   by_cases e:sx=(d:Int)+1
   ·have q1:(sx==(d:Int)+1)=true:=by simp [e]
    have hla:=hb.out.1 ⟨sx,al⟩ (List.mem_cons_self ..);have hla:0≤al∧al<16:=hla;obtain ⟨p,hp⟩:∃ p:Nat,p=2^al.toNat:=⟨_,rfl⟩;have hp16:p<65536:=by rw [hp];exact Nat.pow_lt_pow_right (by decide) (show al.toNat<16 by omega)
    have v1:(2:Int)^al.toNat%4294967296=(p:Int):=by
     have e2:(2:Int)^al.toNat=(p:Int):=by rw [hp];norm_cast
     rw [e2,Int.emod_eq_of_lt (by omega) (by omega)]
    have v2:=z2d u p (by omega) (by omega);have hor:u ||| p<65536:=Nat.or_lt_two_pow (n:=16) hu hp16
    have hb2:=hid (show zrx l∧zq7 ((d:Int)+1) (u ||| p) l=zq7 ((d:Int)+1) 0 A from ⟨fun x hx=>hb.out.1 x (List.mem_cons_of_mem _ hx),by rw [← hb.out.2,hp];conv=>rhs;unfold zq7;rw [if_pos e]⟩);have hcap:l.length+1≤ac:=(RdC.rd (self:=(inferInstance:RdC wr zqj (.slice (some ⟨ab,ao,none⟩) (⟨sx,al⟩::l:List Ar).length ac) (⟨sx,al⟩::l)))).caps.2.1;clear hp hla hb q1;subst e
    by_cases h1:ac=1
    ·obtain rfl:l=[]:=List.eq_nil_of_length_eq_zero (by omega);subst h1;go_wp2_with fail;go_quiet (fail);go_wp2_with fail
     go_roundg 0
     case measure=>have:=Hk.out;simp at this;omega
     case rel =>
      refine ⟨u ||| p,[],some ⟨ab,ao,none⟩,0,rfl,hor,rfl,hb2,?_⟩;refine Sat.perm (P:=pts g 0 [.pointer (some ⟨b,0,none⟩),.slice (some ⟨ab,ao,none⟩) 0 0,.slice ta T.length tc,.int .i64 d,.int .i64 st]*(z5 .u32 (.slice ta T.length tc) T*(knP b y c K*F))) ?_ ?_
      ·exact z3
      ·show _=pts g 0 _*(z7 (α:=Ar) (.slice (some ⟨ab,ao,none⟩) 0 0) []*_);rw [z7x,zm];rfl
    ·go_wp2_with fail;go_quiet (fail);go_wp2_with fail
     go_roundg l.length
     case measure=>have:=Hk.out;simp at this;omega
     case rel =>
      refine ⟨u ||| p,l,some ⟨ab,ao+2,none⟩,ac-1,rfl,hor,rfl,hb2,?_⟩;refine Sat.perm (Sat.recs_tail (E:=zqj) (g:=ab) (off:=ao) (x:=⟨(d:Int)+1,al⟩) (l:=l) (n:=l.length+1) (c:=ac) (F:=pts g 0 [.pointer (some ⟨b,0,none⟩),.slice (some ⟨ab,ao+2,none⟩) l.length (ac-1),.slice ta T.length tc,.int .i64 d,.int .i64 st]*(z5 .u32 (.slice ta T.length tc) T*(knP b y c K*F))) ?_) (by ac_rfl);exact z3
   ·have q1:(sx==(d:Int)+1)=false:=by simp [e]
    have e1:(zq7 ((d:Int)+1) 0 A)=(u,⟨sx,al⟩::l):=by
     rw [← hb.out.2];unfold zq7;rw [if_neg e]
    have He:=hid e1;clear e e1 hb;go_wp2_with fail;go_quiet (fail);go_wp2_with fail;go_ret;refine ⟨?_,?_⟩
    ·show Ending.returned (.int .u32 (u:Int))=.returned (.int .u32 (((zq7 ((d:Int)+1) 0 A).1:Nat):Int));rw [He.out]
    ·refine zQe (aa:=some ⟨ab,ao,none⟩) (ac:=ac) ?_;show Sat w0 _ (pts g 0 [.pointer (some ⟨b,0,none⟩),.slice (some ⟨ab,ao,none⟩) (zq7 ((d:Int)+1) 0 A).2.length ac,.slice ta T.length tc,.int .i64 d,.int .i64 st]*(z7 (.slice (some ⟨ab,ao,none⟩) (zq7 ((d:Int)+1) 0 A).2.length ac) (zq7 ((d:Int)+1) 0 A).2*(z5 .u32 (.slice ta T.length tc) T*(knP b y c K*F))));rw [He.out];exact z3
theorem zrO (g b:Nat) (y:Fx) (c:Cf) (ta:Option Addr) (tc:Nat) (W:Wd) (hr:0≤W.K.reads∧W.K.reads<18446744073709551616) (hl:W.tape.length≤65536) (w0 w:World) (F:HP) (hs:Sat w0 w (wdP g b y c ta tc W*F)) :
  Calls Tryz.prog 29 #[.pointer (some ⟨g,0,none⟩)] w (zp w0 (.int .u32 W.val) (wdP g b y c ta tc W*F)):=by
 obtain ⟨aa,ac,hs⟩:=zqf hs;obtain ⟨K,A,T,d,st⟩:=W;dsimp only at hs hr hl;have hR:=hid (fun w G hs=>znm b y c K w0 w G hs);obtain ⟨m,hm⟩:=Int.eq_ofNat_of_zero_le hr.1;rw [hm] at hR;have u1:IntKind.u64.wrap (T.length:Int)=(T.length:Int):=by rw [IntKind.wrap_u64];omega
 by_cases hlt:m<T.length
 ·have hv:=hid (show Wd.val ⟨K,A,T,d,st⟩=T.getD m 0 by unfold Wd.val lg;show (if K.reads<(T.length:Int) then T.getD K.reads.toNat 0 else 0)=_;rw [hm,if_pos (by omega),Int.toNat_natCast]);have d1:decide (m<T.length)=true:=decide_eq_true hlt;have d2:decide ((m:Int)<(T.length:Int))=true:=decide_eq_true (by omega);have i2:(m:Int)<(T.length:Int):=by omega
  obtain ⟨tg,tto,rfl⟩:=hs.someA ta (κ:=.u32) (n:=T.length) (c:=tc) (show 0<T.length by omega);haveI:Lt m T.length:=⟨hlt⟩;rw [hv.out];clear hv hlt hm hr hl
  go_enter Tryz.func29,Tryz.ntmps29
  go_wp2_with fail;refine (hR.out _ _ Go.Sx.own).mono ?_;rintro en w1 ⟨rfl,hs1⟩;clear hs;go_wp2_with fail
  trace_state
  go_ret;refine ⟨rfl,zQe (aa:=aa) (ac:=ac) ?_⟩;exact z3
 ·have hv:=hid (show Wd.val ⟨K,A,T,d,st⟩=0 by unfold Wd.val;show (if K.reads<(T.length:Int) then _ else 0)=_;rw [hm,if_neg (by omega)]);have d1:decide (m<T.length)=false:=decide_eq_false hlt;rw [hv.out];clear hv hlt hm hr hl
  go_enter Tryz.func29,Tryz.ntmps29
  go_wp2_with fail;refine (hR.out _ _ Go.Sx.own).mono ?_;rintro en w1 ⟨rfl,hs1⟩;clear hs;go_wp2_with fail;go_ret;refine ⟨rfl,zQe (aa:=aa) (ac:=ac) ?_⟩;exact z3
def zqe (d:Int):List Ar→Prop
 | []=>True
 | a::l=>d≤a.step∧zqe a.step l
theorem zqe.le {d:Int}:∀ {l:List Ar},zqe d l→∀ x∈l,d≤x.step
 | [],_,x,h=>absurd h (by simp)
 | a::l,hs,x,h=>by
  rcases List.mem_cons.1 h with rfl | h
  ·exact hs.1
  ·have:=hs.2.le x h;have:=hs.1;omega
def arg (l:List Ar) (k:Nat):Ar:=l.getD k ar0
def zqo (l:List Ar) (k:Nat):Int:=if k=0 then 1 else (arg l (k-1)).step
def zqc (l:List Ar) (k:Nat):Prop:=zqo l k≤(arg l k).step∧0≤(arg l k).line∧(arg l k).line<16
theorem zqG:∀ (l:List Ar) (last:Int),zqq last l=false↔∀ k,k<l.length→(if k=0 then last else (arg l (k-1)).step)≤(arg l k).step∧0≤(arg l k).line∧(arg l k).line<16
 | [],last=>⟨fun _ k hk=>absurd hk (by simp),fun _=>rfl⟩
 | a::l,last=>by
  unfold zqq;rw [Bool.or_eq_false_iff,decide_eq_false_iff_not,zqG l a.step]
  constructor
  ·rintro ⟨h1,h2⟩ k hk
   cases k with
   | zero=>rw [if_pos rfl];show last≤a.step∧0≤a.line∧a.line<16;omega
   | succ k =>
    rw [if_neg (by omega)];have:=h2 k (by simpa using hk)
    cases k with
    | zero=>simpa [arg] using this
    | succ k=>simpa [arg] using this
  ·intro h;refine ⟨?_,fun k hk=>?_⟩
   ·have:=h 0 (by simp);rw [if_pos rfl] at this;have h2:last≤a.step∧0≤a.line∧a.line<16:=this;omega
   ·have:=h (k+1) (by simpa using hk);rw [if_neg (by omega)] at this
    cases k with
    | zero=>simpa [arg] using this
    | succ k=>simpa [arg] using this
theorem zqH (l:List Ar):zqq 1 l=false↔∀ k,k<l.length→zqc l k:=zqG l 1
theorem zqD {s:Sc} (h:s.steps<0∨65536<s.steps):scE s=1:=by unfold scE;rw [if_pos h]
theorem zqp {s:Sc} (h:¬ (s.steps<0∨65536<s.steps)) (h2:65536<s.ar.length∨65536<s.tape.length):scE s=4:=by unfold scE;rw [if_neg h,if_pos h2]
theorem zrl {s:Sc} (h:¬ (s.steps<0∨65536<s.steps)) (h2:¬ (65536<s.ar.length∨65536<s.tape.length)) {k:Nat} (hk:k<s.ar.length) (h3:¬ zqc s.ar k):scE s=5:=by
 unfold scE;rw [if_neg h,if_neg h2,if_pos]
 cases e:zqq 1 s.ar with
 | true=>rfl
 | false=>exact absurd ((zqH _).1 e k hk) h3
theorem zrC {s:Sc} (h:¬ (s.steps<0∨65536<s.steps)) (h2:¬ (65536<s.ar.length∨65536<s.tape.length)) (h3:∀ k,k<s.ar.length→zqc s.ar k):scE s=0:=by
 unfold scE;rw [if_neg h,if_neg h2,(zqH _).2 h3]
 rfl
theorem zqE {s:Sc} (h:scE s=0):0≤s.steps∧s.steps≤65536∧s.ar.length≤65536∧s.tape.length≤65536∧zqq 1 s.ar=false:=by
 unfold scE at h
 split at h
 ·exact absurd h (by decide)
 split at h
 ·exact absurd h (by decide)
 split at h
 ·exact absurd h (by decide)
 rename_i h1 h2 h3
 exact ⟨by omega,by omega,by omega,by omega,by simpa using h3⟩
noncomputable def zQc (c:Cf) (s:Sc):Wd:=⟨z34 c,s.ar,s.tape,0,s.steps⟩
theorem zrI {c:Cf} {s:Sc} (ok:z7T c) (h:scE s=0) (ht:∀ v∈s.tape,zG v):zr8 c (zQc c s):=by
 obtain ⟨h1,h2,_,_,h5⟩:=zqE h;exact ⟨z8W ok,rfl,zqn _ _ h5,ht,⟨h1,h2⟩,h1⟩
theorem zrz {c:Cf} {K:Kn} (h:Inv c K) (ht:K.told=[]) (bits:Nat) (value:Int):(K.evs c bits value).length≤1000:=by
 have i1:=z3b (z8Z h);have i2:=z3b (z71 i1 bits);have l1:=ziL h ht;have l2:=zga i1 rfl bits;have l3:=zjE i2 rfl value;unfold Kn.evs;rw [List.length_append,List.length_append];omega
theorem zro {c:Cf}:∀ (n:Nat) {w:Wd},zr8 c w→(Wd.evs c n w).length≤1000*((Wd.run c n w).done-w.done)∧w.done≤(Wd.run c n w).done
 | 0,w,_=>⟨by show ([]:List Ev).length≤_;simp,Nat.le_refl _⟩
 | n+1,w,h=>by
  by_cases hd:(w.done:Int)<w.steps
  ·rw [zq9,zqa,if_pos hd,if_pos hd,List.length_append];obtain ⟨h1,h2⟩:=zro n (zqu h hd);have h3:=zrz h.inv h.told w.bits w.val;have h4:(w.one c).done=w.done+1:=rfl;rw [h4] at h1 h2;omega
  ·rw [(zq8 hd _).1,(zq8 hd _).2];simp
theorem zr2 {c:Cf}:∀ (n:Nat) (w:Wd),(Wd.run c n w).tape=w.tape
 | 0,_=>rfl
 | n+1,w=>by
  rw [zq9];split
  ·exact zr2 n (w.one c)
  ·rfl
section
variable (g b:Nat) (y:Fx) (c:Cf) (ta:Option Addr) (tc:Nat) (W:Wd)
instance wdK:zC (wdP g b y c ta tc W) g 0 (.pointer (some ⟨b,0,none⟩)):=⟨fun hs=>(zqf hs).elim fun aa h=>h.elim fun ac h=>zC.cell h,fun hs=>(zqf hs).elim fun aa h=>h.elim fun ac h=>zC.free (v:=.pointer (some ⟨b,0,none⟩)) h⟩
instance wdD:zC (wdP g b y c ta tc W) g 3 (.int .i64 W.done):=⟨fun hs=>(zqf hs).elim fun aa h=>h.elim fun ac h=>zC.cell h,fun hs=>(zqf hs).elim fun aa h=>h.elim fun ac h=>zC.free (v:=.int .i64 W.done) h⟩
instance wdS:zC (wdP g b y c ta tc W) g 4 (.int .i64 W.steps):=⟨fun hs=>(zqf hs).elim fun aa h=>h.elim fun ac h=>zC.cell h,fun hs=>(zqf hs).elim fun aa h=>h.elim fun ac h=>zC.free (v:=.int .i64 W.steps) h⟩
end
theorem zs2 (g b:Nat) (y:Fx) (c:Cf) (ta:Option Addr) (tc:Nat) (W:Wd) (hW:zr8 c W) (hl:W.tape.length≤65536) (n:Int) (hn:-9223372036854775808≤n∧n≤9223372036854775807) (w0 w:World) (hT:Tab w0) (F:HP) (hs:Sat w0 w (wdP g b y c ta tc W*F)) :
  Calls Tryz.prog 18 #[.pointer (some ⟨g,0,none⟩),.int .i64 n] w (Ret w0 fun v=>z7 v (Wd.evs c n.toNat W)*(wdP g b y c ta tc (Wd.run c n.toNat W)*F)):=by
 have HW:=hid hW;have HT:=hid hT;have Hl:=hid hl;have hst:=hW.steps;clear hW hT hl
 go_enter Tryz.func18,Tryz.ntmps18
 go_wp2_with fail;refine z9 (w0:=w0) ?_;intro ww hsw;clear hs
 go_loopw [5,6] (fun ov i wr=>∃ (k:Nat) (oa:Option Addr) (oc:Nat) (L:List Ev),k≤n.toNat∧Hid (L=Wd.evs c k W∧(k=0∨(k:Int)≤(Wd.run c k W).done))∧ov=.slice oa L.length oc∧i=.int .i64 k∧Sat w0 wr (z7 (.slice oa L.length oc) L*(wdP g b y c ta tc (Wd.run c k W)*F))) (fun _ i _=>n.toNat-(intOf i).toNat)
 case atStart=>exact ⟨0,none,0,[],Nat.zero_le _,hid ⟨rfl,.inl rfl⟩,rfl,rfl,by
  refine Sat.perm (P:=wdP g b y c ta tc W*F) ?_ ?_
  ·exact z3
  ·show _=z7 (α:=Ev) (.slice none 0 0) []*_;rw [z03,zm];rfl⟩
 case round =>
  obtain ⟨k,oa,oc,L,hk,hL,rfl,rfl,hsr⟩:=hrel;clear hsw;obtain ⟨Wk,hWk⟩:∃ X,X=Wd.run c k W:=⟨_,rfl⟩;have Hok:Hid (zr8 c Wk):=by rw [hWk];exact hid (zrk k HW.out)
  rw [← hWk] at hsr hL;have HWk:=hid hWk;clear hWk
  by_cases h1:(k:Int)<n
  ·have d1:decide ((k:Int)<n)=true:=decide_eq_true h1
   by_cases h2:(Wk.done:Int)<Wk.steps
   ·have d2:decide ((Wk.done:Int)<Wk.steps)=true:=decide_eq_true h2;have hd6:Wk.done≤65536:=by have:=Hok.out.steps;have:=Hok.out.done;omega
    have hlt:Wk.tape=W.tape:=by rw [HWk.out];exact zr2 k W
    have hLn:=hid (fun w G hs=>zrM g b y c ta tc Wk Hok.out.ar hd6 w0 w G hs);have hVl:=hid (fun (w:World) (G:HP) (hs:Sat w0 w (wdP g b y c ta tc { Wk with ar:=Wk.rest }*G))=>zrO g b y c ta tc { Wk with ar:=Wk.rest } Hok.out.inv.rds (by show Wk.tape.length≤65536;rw [hlt];exact Hl.out) w0 w G hs);have hSt:=hid (fun (w:World) (G:HP) (hs:Sat w0 w (knP b y c Wk.K*G))=>z8n b y c Wk.K Hok.out.inv Hok.out.told Wk.bits (by have:=zrf (Wk.done+1) Wk.ar 0 Hok.out.ar (by decide);show (zq7 _ _ _).1<_;omega) Wk.val (zqV Hok.out) w0 w HT.out G hs);have evv:Wd.val { Wk with ar:=Wk.rest }=Wk.val:=rfl;rw [evv] at hVl;have lb:L.length≤66000000:=by
     have h3:=(zro k HW.out).1;rw [hL.out.1, ];rw [← HWk.out] at h3;omega
    have le:(Wk.K.evs c Wk.bits Wk.val).length≤1000:=zrz Hok.out.inv Hok.out.told _ _;have hnext:=hid (show L++Wk.K.evs c Wk.bits Wk.val=Wd.evs c (k+1) W∧Wd.run c (k+1) W=Wk.one c by
     obtain ⟨a1,a2⟩:=zqT c k 1 W;rw [← HWk.out] at a1 a2;rw [a1,a2,hL.out.1,zq9,zqa,if_pos h2,if_pos h2];exact ⟨by rw [show Wd.evs c 0 (Wk.one c)=[] from rfl,List.append_nil],rfl⟩)
    have hone:Hid (Wk.one c=⟨Wk.K.step c Wk.bits Wk.val,Wk.rest,Wk.tape,Wk.done+1,Wk.steps⟩):=rfl;have hkd:=hid (show k+1≤65537∧k+1≤Wk.done+1 by have:=hL.out.2;omega);clear hlt evv hL;obtain ⟨E,hE⟩:∃ E,E=Wk.K.evs c Wk.bits Wk.val:=⟨_,rfl⟩;obtain ⟨bt,hbt⟩:∃ z,z=Wk.bits:=⟨_,rfl⟩;obtain ⟨vl,hvl⟩:∃ z,z=Wk.val:=⟨_,rfl⟩;obtain ⟨K2,hK2⟩:∃ z,z=Wk.K.step c Wk.bits Wk.val:=⟨_,rfl⟩;rw [← hE] at le hnext hSt;rw [← hK2] at hSt hone;rw [← hbt] at hLn hSt;rw [← hvl] at hVl hSt;clear hE hbt hvl hK2;go_wp2_with fail;go_quiet (fail);go_wp2_with fail;refine z9 (w0:=w0) ?_;intro wq hsq;refine zj (fun w'=>w'.cell? ⟨g,0,none⟩=some (.pointer (some ⟨b,0,none⟩))) [(0,true),(1,true),(2,true),(3,true),(4,true),(5,true),(7,true),(6,false),(8,false),(9,false),(10,false),(11,true)] (by kernel_rfl) (by kernel_rfl) (fun _ _ _ _ h=>h) z4 ?_
    iterate 7 (first | refine zsR ?_ | refine zsQ ?_)
    refine z29 rfl (by rfl) (fun K hK=>?_);go_wp2_with fail;refine (hLn.out _ _ Go.Sx.own).mono ?_;rintro en w1 ⟨rfl,hs1⟩;clear hsr hsq;go_wp2_with fail;refine ⟨z4,?_⟩;refine z29 rfl (by rfl) (fun K hK=>?_);go_wp2_with fail;refine (hVl.out _ _ Go.Sx.own).mono ?_;rintro en w2 ⟨rfl,hs2⟩;clear hs1;obtain ⟨aa,ac,hs3⟩:=zqf hs2;clear hs2;go_wp2_with fail;refine ⟨z4,?_⟩;refine z29 rfl (by rfl) (fun K hK=>?_);go_wp2_with fail;refine (hSt.out _ _ Go.Sx.own).mono ?_;rintro en w3 ⟨v3,rfl,hs4⟩;clear hs3;obtain ⟨va,vc,rfl⟩:=hs4.slice_form;go_wp2_with fail;refine ⟨z4,?_⟩;refine z29 rfl (by rfl) (fun K hK=>?_);refine z2J rfl rfl rfl (by omega) ?_;intro ap ac2 aL aw ahL ah1 ah2 ahs _;clear hs4;refine hK _ _ ?_;refine ⟨z4,?_⟩
    iterate 1 (first | refine zsR ?_ | refine zsQ ?_)
    refine zB ?_;go_wp2_with fail;go_roundw
    case rel =>
     refine ⟨k+1,ap,ac2,aL,by omega,hid ⟨by rw [ahL,hnext.out.1],.inr (by rw [hnext.out.2,hone.out];have:=hkd.out.2;show ((k+1:Nat):Int)≤((Wk.done+1:Nat):Int);omega)⟩,rfl,by go_num,?_⟩;rw [hnext.out.2,hone.out];refine Sat.perm (zQe (aa:=aa) (ac:=ac) (F:=z7 (.slice ap aL.length ac2) aL*F) ?_) (by ac_rfl);show Sat w0 _ (pts g 0 [.pointer (some ⟨b,0,none⟩),.slice aa Wk.rest.length ac,.slice ta Wk.tape.length tc,.int .i64 ((Wk.done:Int)+1),.int .i64 Wk.steps]*(z7 (.slice aa Wk.rest.length ac) Wk.rest*(z5 .u32 (.slice ta Wk.tape.length tc) Wk.tape*(knP b y c K2*(z7 (.slice ap aL.length ac2) aL*F)))));exact z3
    case measure=>simp [intOf];have:=hkd.out;omega
   ·have d2:decide ((Wk.done:Int)<Wk.steps)=false:=decide_eq_false h2;have he:=hid (show Wd.evs c n.toNat W=L∧Wd.run c n.toNat W=Wk by
     obtain ⟨a1,a2⟩:=zqT c k (n.toNat-k) W;rw [show k+(n.toNat-k)=n.toNat by omega,← HWk.out] at a1 a2;rw [a1,a2,(zq8 h2 _).1,(zq8 h2 _).2,List.append_nil];exact ⟨hL.out.1.symm,rfl⟩)
    clear hL;go_wp2_with fail;go_quiet (fail);go_wp2_with fail;go_ret;refine ⟨_,rfl,?_⟩;rw [he.out.1,he.out.2];show Sat w0 _ (z7 (.slice oa L.length oc) L*(wdP g b y c ta tc Wk*F));exact z3
  ·have d1:decide ((k:Int)<n)=false:=decide_eq_false h1;have hkn:k=n.toNat:=by omega
   have he:=hid (show Wd.evs c n.toNat W=L∧Wd.run c n.toNat W=Wk by rw [← hkn];exact ⟨hL.out.1.symm,HWk.out.symm⟩);clear hL hkn;go_wp2_with fail;go_quiet (fail);go_wp2_with fail;go_ret;refine ⟨_,rfl,?_⟩;rw [he.out.1,he.out.2];show Sat w0 _ (z7 (.slice oa L.length oc) L*(wdP g b y c ta tc Wk*F));exact z3
end Go.Proofs.YtgiiidminlhbpaaGreatDoor
namespace Go.Sx
open Go.RowKit
def zlj (md:Region.Mode) (o:Oper):Nat:=o.after.toList.foldr (fun e m=>if Region.binds md e=true then m ||| 2^e.on else m) 0
def zlu (a m:Nat):Bool:=(a &&& m)==a
theorem zdq {a m:Nat}:zlu a m=true↔∀ k,a.testBit k=true→m.testBit k=true:=by
 unfold zlu;rw [beq_iff_eq]
 constructor
 ·intro h k hk;rw [← h,Nat.testBit_and] at hk;simp only [Bool.and_eq_true] at hk;exact hk.2
 ·intro h;refine Nat.eq_of_testBit_eq fun k=>?_;rw [Nat.testBit_and]
  cases e:a.testBit k with
  | false=>rfl
  | true=>rw [h k e];rfl
theorem zeQ (md:Region.Mode) (o:Oper) (k:Nat):(zlj md o).testBit k=true↔∃ e∈o.after.toList,Region.binds md e=true∧e.on=k:=by
 unfold zlj
 induction o.after.toList with
 | nil=>simp
 | cons e l ih =>
  rw [List.foldr_cons]
  by_cases h:Region.binds md e=true
  ·rw [if_pos h,Nat.testBit_or,Bool.or_eq_true,ih,Nat.testBit_two_pow];simp [h]
   constructor
   ·rintro (⟨a,b,c⟩ | a)
    ·exact .inr ⟨a,b,c⟩
    ·exact .inl a
   ·rintro (a | ⟨a,b,c⟩)
    ·exact .inr a
    ·exact .inl ⟨a,b,c⟩
  ·rw [if_neg h,ih];simp [h]
structure Agr (listed:Array Bool) (m n:Nat):Prop where
 sz:listed.size=n
 eq:∀ i,listed.getD i false=m.testBit i
theorem Agr.un {listed:Array Bool} {m n i:Nat} (h:Agr listed m n) (hi:i<n):listed.getD i true=m.testBit i:=by
 rw [← h.eq i];have:i<listed.size:=by rw [h.sz];exact hi
 simp [Array.getD,this]
theorem Agr.set {listed:Array Bool} {m n i:Nat} (h:Agr listed m n) (hi:i<n):Agr (listed.setIfInBounds i true) (m ||| 2^i) n:=by
 refine ⟨by rw [Array.size_setIfInBounds];exact h.sz,fun k=>?_⟩;rw [Nat.testBit_or,Nat.testBit_two_pow,← h.eq k]
 by_cases e:i=k
 ·subst e;have:i<listed.size:=by rw [h.sz];exact hi
  simp [Array.getD,this]
 ·rw [getD_set_ne false e];simp [e]
def zaW (D:List Nat) (n m:Nat):List Nat:=(List.range n).filter fun i=>!m.testBit i && zlu (D.getD i 0) m
theorem z9t {md:Region.Mode} {ops:Array Oper} {listed:Array Bool} {m:Nat} {D:List Nat} (hD:ops.toList.map (zlj md)=D) (h:Agr listed m ops.size) :
  Region.ready md ops listed=zaW D ops.size m:=by
 unfold Region.ready zaW;refine List.filter_congr fun i hi=>?_;have hi:=List.mem_range.1 hi;rw [h.un hi]
 congr 1
 have hd:D.getD i 0=zlj md ops[i]:=by rw [← hD];simp [List.getD,hi]
 rw [hd,Array.getElem?_eq_getElem hi,Option.map_some,Option.getD_some];rw [Bool.eq_iff_iff,zdq,Array.all_eq_true_iff_forall_mem]
 constructor
 ·intro h1 k hk;obtain ⟨e,he,hb,rfl⟩:=(zeQ md _ k).1 hk;have:=h1 e (by simpa using he);rw [hb,h.eq] at this
  simpa using this
 ·intro h1 e he
  by_cases hb:Region.binds md e=true
  ·have:=h1 e.on ((zeQ md _ _).2 ⟨e,by simpa using he,hb,rfl⟩);rw [h.eq,this];simp
  ·simp [hb]
def znb (md:Region.Mode) (ops:Array Oper) (i:Nat):Nat:=match ops[i]? with
 | none=>0
 | some oi=>(List.range ops.size).foldr (fun j m=>if j=i then m else match ops[j]? with
  | some oj=>if oj.after.any (fun e=>Region.binds md e && e.on==i) || oi.apart ops oj then m else m ||| 2^j
  | none=>m) 0
theorem zh5 {md:Region.Mode} {ops:Array Oper} {listed:Array Bool} {m i:Nat} (h:Agr listed m ops.size) (hi:i<ops.size) (hb:zlu (znb md ops i) m=true):Region.free md ops listed i=true:=by
 rw [zdq] at hb;unfold Region.free;unfold znb at hb;rw [Array.getElem?_eq_getElem hi] at hb ⊢;dsimp only at hb ⊢;have key:∀ (l:List Nat),(∀ j∈l,j<ops.size)→(∀ k,Nat.testBit (l.foldr (fun j m=>if j=i then m else match ops[j]? with
  | some oj=>if oj.after.any (fun e=>Region.binds md e && e.on==i) || (ops[i]).apart ops oj then m else m ||| 2^j
  | none=>m) 0) k=true→m.testBit k=true)→l.all (fun j=>j==i || listed.getD j true || match ops[j]? with
   | some oj=>oj.after.any (fun e=>Region.binds md e && e.on==i) || (ops[i]).apart ops oj
   | none=>true)=true:=by
  intro l
  induction l with
  | nil=>intro _ _;rfl
  | cons j l ih =>
   intro hl hk;rw [List.foldr_cons] at hk;have hj:j<ops.size:=hl j (List.mem_cons_self ..);rw [List.all_cons,Bool.and_eq_true];have hrest:∀ k,Nat.testBit (l.foldr (fun j m=>if j=i then m else match ops[j]? with
    | some oj=>if oj.after.any (fun e=>Region.binds md e && e.on==i) || (ops[i]).apart ops oj then m else m ||| 2^j
    | none=>m) 0) k=true→m.testBit k=true:=by
    intro k hk2;refine hk k ?_
    split
    ·exact hk2
    ·split
     ·split
      ·exact hk2
      ·rw [Nat.testBit_or,hk2];rfl
     ·exact hk2
   refine ⟨?_,ih (fun x hx=>hl x (List.mem_cons_of_mem _ hx)) hrest⟩
   by_cases e:j=i
   ·simp [e]
   ·rw [if_neg e,Array.getElem?_eq_getElem hj] at hk;rw [Array.getElem?_eq_getElem hj];dsimp only at hk ⊢
    by_cases e2:(ops[j].after.any (fun e=>Region.binds md e && e.on==i) || (ops[i]).apart ops ops[j])=true
    ·rw [e2];simp
    ·rw [if_neg e2] at hk;have:=hk j (by rw [Nat.testBit_or,Nat.testBit_two_pow];simp);rw [h.un hj,this];simp
 exact key _ (fun j hj=>List.mem_range.1 hj) hb
def z7O (md:Region.Mode) (ops:Array Oper) (D:List Nat) (n:Nat):z58→Nat→Bool
 | .done,m=>(zaW D n m).isEmpty
 | .read i p,m=>decide (i<n) && !m.testBit i && zlu (D.getD i 0) m && zlu (znb md ops i) m && z7O md ops D n p (m ||| 2^i)
 | .run i p,m=>decide (i<n) && (zaW D n m==[i]) && z7O md ops D n p (m ||| 2^i)
 | .alt i p j q,m=>decide (i<n) && decide (j<n) && (zaW D n m==[i,j]) && (p.size==q.size) && z7O md ops D n p (m ||| 2^i) && z7O md ops D n q (m ||| 2^j)
 | .alt3 _ _ _ _ _ _,_=>false
theorem z2Z {md:Region.Mode} {ops:Array Oper} {D:List Nat} (hD:ops.toList.map (zlj md)=D):∀ (p:z58) (m:Nat) (listed:Array Bool),Agr listed m ops.size→z7O md ops D ops.size p m=true→z3i md ops p listed=true
 | .done,m,listed,h,hN=>by
  unfold z7O at hN;unfold z3i;rw [z9t hD h];exact hN
 | .read i p,m,listed,h,hN=>by
  simp only [z7O,Bool.and_eq_true,decide_eq_true_eq,Bool.not_eq_true'] at hN;obtain ⟨⟨⟨⟨h1,h2⟩,h3⟩,h4⟩,h5⟩:=hN;simp only [z3i,Bool.and_eq_true];refine ⟨⟨?_,zh5 h h1 h4⟩,z2Z hD p _ _ (h.set h1) h5⟩;rw [z9t hD h];simp only [List.contains_iff_mem];exact List.mem_filter.2 ⟨List.mem_range.2 h1,by rw [h2,h3];rfl⟩
 | .run i p,m,listed,h,hN=>by
  simp only [z7O,Bool.and_eq_true,decide_eq_true_eq] at hN;obtain ⟨⟨h1,h2⟩,h5⟩:=hN;simp only [z3i,Bool.and_eq_true];exact ⟨by rw [z9t hD h];exact h2,z2Z hD p _ _ (h.set h1) h5⟩
 | .alt i p j q,m,listed,h,hN=>by
  simp only [z7O,Bool.and_eq_true,decide_eq_true_eq] at hN;obtain ⟨⟨⟨⟨⟨h1,h2⟩,h3⟩,h4⟩,h5⟩,h6⟩:=hN;simp only [z3i,Bool.and_eq_true];exact ⟨⟨⟨by rw [z9t hD h];exact h3,h4⟩,z2Z hD p _ _ (h.set h1) h5⟩,z2Z hD q _ _ (h.set h2) h6⟩
 | .alt3 _ _ _ _ _ _,_,_,_,hN=>by simp [z7O] at hN
def z7P (ops:Array Oper) (D:List Nat) (n:Nat) (plan:z58):Bool :=
 (ops.size==n) && Region.noSelect ops && (plan.size==n) && (ops.toList.map (zlj .any)==D) && z7O .any ops D n plan 0
theorem z87 {ops:Array Oper} {D:List Nat} {n:Nat} {plan:z58} (h:z7P ops D n plan=true):z54 ops plan=true:=by
 simp only [z7P,Bool.and_eq_true,beq_iff_eq] at h;obtain ⟨⟨⟨⟨rfl,h1⟩,h2⟩,h3⟩,h4⟩:=h;simp only [z54,Bool.and_eq_true,beq_iff_eq];refine ⟨⟨h1,h2⟩,z2Z h3 plan 0 _ ⟨by simp,fun i=>?_⟩ h4⟩;simp [Array.getD]
theorem z2t {P:Program} {ops:Array Oper} {Q:Exit→Act→World→Prop} {id:Nat} {a:Act} {w:World} (S:World→Prop) (D:List Nat) (n:Nat) (plan:z58) (hm:P.follows .mixedOrders=true) (hB:z7P ops D n plan=true)
  (hQ:∀ (t:Array Value) c (a:Act) w,Q (.panic c) { a with tmps:=t } w→Q (.panic c) a w) (hS:S w.drew) (h:z08 P ops Q S plan a w.drew):(Code.region id ops true).wp P Q a w :=
 z4l S plan hm (z87 hB) hQ hS h
section
variable {P:Program} {l:List Oper} {Q:Exit→Act→World→Prop} {S:World→Prop} {i:Nat} {p:z58} {a:Act} {w w':World} {o:Oper}
theorem z9L (ho:l[i]?=some o) (hg:o.guard=none) (h:o.wp P a w (fun a' w'=>∃ S':World→Prop,(∀ w,S' w→S w)∧S' w'∧z08 P l.toArray Q S' p a' w') Q):z08 P l.toArray Q S (.run i p) a w:=by
 show wpOp P l.toArray Q i _ a w;unfold wpOp;have e:l.toArray[i]?=l[i]?:=by simp
 rw [e,ho];show if Region.wanted o (yielded l.toArray a.tmps)=true then _ else _;rw [if_pos (show Region.wanted o (yielded l.toArray a.tmps)=true by simp [Region.wanted,hg])];exact .inl h
theorem z0d {R:Ending→World→Prop} {f:FuncId} {vals:Array Value} (ho:l[i]?=some o) (hg:o.guard=none) (hx:(execOp a.eval o).run P w=.ok (.enter f vals) w) (hc:Calls P f vals w R)
  (hk:∀ e w',R e w'→∃ v,e=.returned v∧∃ S':World→Prop,(∀ w,S' w→S w)∧S' w'∧z08 P l.toArray Q S' p (a.put o.dst v) w'):z08 P l.toArray Q S (.run i p) a w:=by
 refine z9L ho hg ?_;unfold Oper.wp;rw [hx,Oper.upon_enter];refine hc.mono ?_;intro e w' hr;obtain ⟨v,rfl,h⟩:=hk e w' hr;exact h
theorem ziP {v:Value} (ho:l[i]?=some o) (hg:o.guard=none) (hx:(execOp a.eval o).run P w=.ok (.value v) w') (hk:∃ S':World→Prop,(∀ w,S' w→S w)∧S' w'∧z08 P l.toArray Q S' p (a.put o.dst v) w'):z08 P l.toArray Q S (.run i p) a w:=by
 refine z9L ho hg ?_;unfold Oper.wp;rw [hx];exact hk
end
section
variable {P:Program} {w0 w:World} {F:HP} {b o:Nat} {cells old:List Value} {ty:TypeId} {x y:Operand} {op:Oper} {a:Act} {Q:Exit→Act→World→Prop}
theorem Sat.there (hs:Sat w0 w (pts b o old*F)) {n:Nat} (hn:n≤old.length):w.there b o n:=fun j hj =>
 ⟨by rw [hs.cell (List.getElem?_eq_getElem (show j<old.length by omega))];rfl,hs.frz (by omega)⟩
theorem Sat.range (hs:Sat w0 w (pts b o cells*F)):w.rangeAt b o cells:=fun _ _ hj=>hs.cell hj
theorem Sat.stored (hs:Sat w0 w (pts b o old*F)) (hl:cells.length=old.length):Sat w0 (w.setCells b o cells) (pts b o cells*F):=by
 have h:=Sat.setCells (b:=b) (o:=o) (F:=F) cells w [] old (hs.perm (by simp)) (by omega);have e:old.drop cells.length=[]:=List.drop_eq_nil_of_le (by omega);rw [e] at h
 simpa using h
theorem z62 {K:Act→World→Prop} (ho:op.op=.store ty x y) (hx:a.eval x=.pointer (some ⟨b,o,none⟩)) (hy:a.eval y=.agg cells.toArray) (hs:Sat w0 w (pts b o old*F)) (hl:cells.length=old.length)
  (hi : (P.info? ty).map (·.size) = some cells.length) (h1 : cells.all (·.oneCell') = true) (h : ∀ w',Sat w0 w' (pts b o cells * F) → K (a.put op.dst undef) w') : op.wp P a w K Q :=
 wp_store_mid ty x y ho b o cells.toArray hx hy (by simpa [hl] using hs.there (Nat.le_refl _)) (by simpa using hi) (by simpa using h1) (h _ (by simpa using hs.stored hl))
theorem z09 {ops:Array Oper} {rest:List Oper} (hgd:op.guard=none) (ho:op.op=.store ty x y) (hx:a.eval x=.pointer (some ⟨b,o,none⟩)) (hy:a.eval y=.agg cells.toArray) (hs:Sat w0 w (pts b o old*F)) (hl:cells.length=old.length)
  (hi : (P.info? ty).map (·.size) = some cells.length) (h1 : cells.all (·.oneCell') = true) (h : ∀ w',Sat w0 w' (pts b o cells * F) → wpList P ops Q rest (a.put op.dst undef) w') : wpList P ops Q (op :: rest) a w :=
 wpList_plain hgd fun _ hK=>z62 ho hx hy hs hl hi h1 fun w' h2=>hK _ _ (h w' h2)
theorem z1u {ops:Array Oper} {rest:List Oper} {d:TypeDesc} (hgd:op.guard=none) (ho:op.op=.load ty x) (hx:a.eval x=.pointer (some ⟨b,o,none⟩)) (hs:Sat w0 w (pts b o cells*F))
  (hu : P.underlying ty = some d) (hd : d.isRow = true) (hi : (P.info? ty).map (·.size) = some cells.length)
  (h:wpList P ops Q rest (a.put op.dst (.agg cells.toArray)) w):wpList P ops Q (op::rest) a w :=
 wpList_load_mid hgd ty x ho b o hx cells d hs.range hu hd hi h
theorem z17 {l:List Oper} {S:World→Prop} {i:Nat} {p:z58} (hi0:l[i]?=some op) (hgd:op.guard=none) (ho:op.op=.store ty x y) (hx:a.eval x=.pointer (some ⟨b,o,none⟩)) (hy:a.eval y=.agg cells.toArray) (hs:Sat w0 w (pts b o old*F)) (hl:cells.length=old.length)
  (hi : (P.info? ty).map (·.size) = some cells.length) (h1 : cells.all (·.oneCell') = true) (h : ∀ w',Sat w0 w' (pts b o cells * F) → ∃ S' : World → Prop,(∀ w,S' w → S w) ∧ S' w' ∧ z08 P l.toArray Q S' p (a.put op.dst undef) w') : z08 P l.toArray Q S (.run i p) a w :=
 z9L hi0 hgd (z62 ho hx hy hs hl hi h1 h)
theorem z15 {l:List Oper} {S:World→Prop} {i:Nat} {p:z58} {R:HP} (zs:List Value) (t:TypeId) [hs:Sat w0 w R] (hi0:l[i]?=some op) (hgd:op.guard=none)
  (hx:(execOp a.eval op).run P w=.ok (.value (.pointer (some ⟨w.heap.size,0,none⟩))) (w.alloc (.cells zs.toArray t)))
  (h:∀ b w',Sat w0 w' (pts b 0 zs*R)→∃ S':World→Prop,(∀ w,S' w→S w)∧S' w'∧z08 P l.toArray Q S' p (a.put op.dst (.pointer (some ⟨b,0,none⟩))) w'):z08 P l.toArray Q S (.run i p) a w :=
 ziP hi0 hgd hx (h _ _ (hs.alloc zs.toArray t))
end
theorem z3p {P:Program} {w0 w:World} {F:HP} {fn:Func} {p b o:Nat} {ty:TypeId} {tmps:Array Value} {cells:List Value} {d:TypeDesc} (h:fn.results=#[.cell p ty]) (hp:tmps.getD p undef=.pointer (some ⟨b,o,none⟩)) (hs:Sat w0 w (pts b o cells*F))
  (hu : P.underlying ty = some d) (hd : d.isRow = true) (hi : (P.info? ty).map (·.size) = some cells.length) : (results fn tmps).run P w = .ok (.agg cells.toArray) w:=by
 have hp':tmps[p]?.getD undef=.pointer (some ⟨b,o,none⟩):=by simpa using hp
 simp [results,h,hp',asAddr,run_loadVar_mid w b o ty cells d hs.range hu hd hi]
theorem zew {P:Program} {c1 c2:Code} {Q:Exit→Act→World→Prop} {a:Act} {w:World} (h:∀ K:Act→World→Prop,(∀ a w,c2.wp P Q a w→K a w)→c1.wp P (Exit.then K Q) a w):(c1.seq c2).wp P Q a w:=wp_seq (h _ fun _ _ h=>h)
end Go.Sx
