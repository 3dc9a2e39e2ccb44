/-
  Parts of the proof: KernSt KernDs.
-/
import Derived.Test.YtgiiidminlhbpaaGreatDoorKD9
import Derived.Test.YtgiiidminlhbpaaGreatDoorKD10
set_option linter.unusedVariables false
set_option linter.unusedSimpArgs false
set_option maxHeartbeats 32000000
set_option maxRecDepth 100000
namespace Go.Proofs.YtgiiidminlhbpaaGreatDoor
open Go.RowKit Go.Sx Go.Dl Go.Lk Go.Rq Go.Au
theorem zkl (b:Nat) (x:Fx) (c:Cf) (K:Kn) (t cb co:Nat) (hcx:z4b b x c cb co t) (i:Ins) (hi:zI i) (hd:i.d=0) (h:Inv c K) (ht:t<c.ts.length) (w0 w:World) (F:HP) (hs:Sat w0 w (knP b x c K*F)) (hl:K.told.length≤99990) :
  Calls Tryz.prog 127 #[.pointer (some ⟨b,0,none⟩),.int .i64 t,.pointer (some ⟨cb,co,none⟩),z22 i] w (zp w0 (.tuple #[]) (knP b x c (K.sleep c t i)*F)):=by
 have hnt:=h.cf.nt;unfold Kn.sleep;dsimp only
 by_cases hz:K.reg t i.c=0
 ·rw [if_pos hz];exact zav b x c K t cb co hcx i hi hz w0 w F hs
 ·rw [if_neg hz]
  by_cases hr:K.noRoom c=true
  ·rw [if_pos hr];exact zau b x c K t cb co hcx i hi hz h.S hr h.cf (by omega) w0 w F hs (by omega)
  ·rw [if_neg hr];exact zbM b x c K t cb co hcx i hi (by omega) hz (z0K h (zP hcx) i.c) h.S (by simpa using hr) h.cf ht w0 w F hs (by omega)
theorem z7d (b:Nat) (x:Fx) (c:Cf) (K:Kn) (t cb co:Nat) (hcx:z4b b x c cb co t) (i:Ins) (hi:zI i) (h:Inv c K) (ht:t<c.ts.length) (hc:z20 c K t) (ho:21≤i.op∧i.op≤36) (value:Int) (hvl:zG value) (w0 w:World) (F:HP) (hs:Sat w0 w (knP b x c K*F)) (hl:K.told.length≤99800) :
  Calls Tryz.prog 102 #[.pointer (some ⟨b,0,none⟩),.int .i64 t,.pointer (some ⟨cb,co,none⟩),z22 i,.int .u32 value] w (zp w0 (.tuple #[]) (knP b x c (K.serveTask c t i value)*F)):=by
 have hnt:=h.cf.nt
 by_cases e1:i.op=31
 ·have hx:K.serveTask c t i value=K.lock c t i:=by unfold Kn.serveTask;rw [if_pos e1]
  rw [hx];have hS:=hid (fun (w:World) (G:HP) (hs:Sat w0 w (knP b x c K*G))=>zkd b x c K t cb co hcx i hi h ht hc (zeN hi (.inl e1)) w0 w G hs (by omega));clear hx hi h hc hl;obtain ⟨op,a,b',c',d,k⟩:=i;obtain rfl:op=31:=e1;clear ho hvl
  go_enter Tryz.func102,Tryz.ntmps102
  go_wp2_with fail;refine (hS.out _ _ own).mono ?_;rintro en w1 ⟨rfl,hs1⟩;go_wp2_with fail
  go_end0
  exact ⟨rfl,z3⟩
 by_cases e2:i.op=32
 ·have hx:K.serveTask c t i value=K.unlock c t i:=by unfold Kn.serveTask;rw [if_neg e1,if_pos e2]
  rw [hx];have hS:=hid (fun (w:World) (G:HP) (hs:Sat w0 w (knP b x c K*G))=>zfv b x c K t cb co hcx i hi h ht w0 w G hs (by omega));clear hx hi h hc hl;obtain ⟨op,a,b',c',d,k⟩:=i;obtain rfl:op=32:=e2;clear e1 ho hvl
  go_enter Tryz.func102,Tryz.ntmps102
  go_wp2_with fail;refine (hS.out _ _ own).mono ?_;rintro en w1 ⟨rfl,hs1⟩;go_wp2_with fail
  go_end0
  exact ⟨rfl,z3⟩
 by_cases e3:i.op=33
 ·have hx:K.serveTask c t i value=K.await c t i:=by unfold Kn.serveTask;rw [if_neg e1,if_neg e2,if_pos e3]
  rw [hx];have hS:=hid (fun (w:World) (G:HP) (hs:Sat w0 w (knP b x c K*G))=>zkb b x c K t cb co hcx i hi h ht w0 w G hs (by omega));clear hx hi h hc hl;obtain ⟨op,a,b',c',d,k⟩:=i;obtain rfl:op=33:=e3;clear e1 e2 ho hvl
  go_enter Tryz.func102,Tryz.ntmps102
  go_wp2_with fail;refine (hS.out _ _ own).mono ?_;rintro en w1 ⟨rfl,hs1⟩;go_wp2_with fail
  go_end0
  exact ⟨rfl,z3⟩
 by_cases e4:i.op=34
 ·have hx:K.serveTask c t i value=K.sleep c t i:=by unfold Kn.serveTask;rw [if_neg e1,if_neg e2,if_neg e3,if_pos e4]
  rw [hx];have hS:=hid (fun (w:World) (G:HP) (hs:Sat w0 w (knP b x c K*G))=>zkl b x c K t cb co hcx i hi (zeN hi (.inr e4)) h ht w0 w G hs (by omega));clear hx hi h hc hl;obtain ⟨op,a,b',c',d,k⟩:=i;obtain rfl:op=34:=e4;clear e1 e2 e3 ho hvl
  go_enter Tryz.func102,Tryz.ntmps102
  go_wp2_with fail;refine (hS.out _ _ own).mono ?_;rintro en w1 ⟨rfl,hs1⟩;go_wp2_with fail
  go_end0
  exact ⟨rfl,z3⟩
 by_cases e5:i.op=35
 ·have hx:K.serveTask c t i value=K.wR (z6e K.R t):=by unfold Kn.serveTask;rw [if_neg e1,if_neg e2,if_neg e3,if_neg e4,if_pos e5];rfl
  rw [hx];have hS:=hid (fun (w:World) (G:HP) (hs:Sat w0 w (knP b x c K*G))=>zkj b x c K w0 w G hs t (by omega));clear hx hi h hc hl;obtain ⟨op,a,b',c',d,k⟩:=i;obtain rfl:op=35:=e5;clear e1 e2 e3 e4 ho hvl
  go_enter Tryz.func102,Tryz.ntmps102
  go_wp2_with fail;refine (hS.out _ _ own).mono ?_;rintro en w1 ⟨rfl,hs1⟩;go_wp2_with fail
  go_end0
  exact ⟨rfl,z3⟩
 by_cases e6:i.op=36
 ·have hx:K.serveTask c t i value=K.next c t:=by unfold Kn.serveTask;rw [if_neg e1,if_neg e2,if_neg e3,if_neg e4,if_neg e5,if_pos e6]
  rw [hx];have hS:=hid (fun (w:World) (G:HP) (hs:Sat w0 w (knP b x c K*G))=>zmc b x c K t h ht w0 w G hs (by omega));clear hx hi h hc hl;obtain ⟨op,a,b',c',d,k⟩:=i;obtain rfl:op=36:=e6;clear e1 e2 e3 e4 e5 ho hvl
  go_enter Tryz.func102,Tryz.ntmps102
  go_wp2_with fail;refine (hS.out _ _ own).mono ?_;rintro en w1 ⟨rfl,hs1⟩;go_wp2_with fail
  go_end0
  exact ⟨rfl,z3⟩
 ·have hx:K.serveTask c t i value=K.shared c t i value:=by unfold Kn.serveTask;rw [if_neg e1,if_neg e2,if_neg e3,if_neg e4,if_neg e5,if_neg e6]
  rw [hx];have hS:=hid (fun (w:World) (G:HP) (hs:Sat w0 w (knP b x c K*G))=>zd3 b x c K t cb co hcx i hi h (by omega) (fun a=>by omega) value hvl w0 w G hs (by omega));clear hx hi h hc hl;obtain ⟨op,a,b',c',d,k⟩:=i;have f1:(op==31)=false:=by simpa using e1
  have f2:(op==32)=false:=by simpa using e2
  have f3:(op==33)=false:=by simpa using e3
  have f4:(op==34)=false:=by simpa using e4
  have f5:(op==35)=false:=by simpa using e5
  have f6:(op==36)=false:=by simpa using e6
  clear e1 e2 e3 e4 e5 e6 ho hvl
  go_enter Tryz.func102,Tryz.ntmps102
  go_wp2_with fail;refine (hS.out _ _ own).mono ?_;rintro en w1 ⟨rfl,hs1⟩;go_wp2_with fail
  go_end0
  exact ⟨rfl,z3⟩
theorem zmW (b:Nat) (x:Fx) (c:Cf) (K:Kn) (t:Nat) (h:Inv c K) (ht:t<c.ts.length) (i:Ins) (hi:zI i) (hop:i.op≤20) (w0 w:World) (F:HP) (hs:Sat w0 w (knP b x c K*F)) :
  Calls Tryz.prog 95 #[.pointer (some ⟨x.ta.b,x.ta.o+t*15+5,none⟩),z22 i] w (zp w0 (.int .i64 (doI i (K.cx t)).1) (knP b x c (K.putCx t (doI i (K.cx t)).2)*F)):=by
 have hnt:=h.cf.nt;have t64:t<64:=by omega
 obtain ⟨R,hR⟩:=z0P (b:=b) (x:=x) (K:=K) ht;have hcx:K.cx t=⟨(K.T t).at_,(K.T t).rg,K.tm t⟩:=by unfold Kn.cx;rw [if_pos t64]
 have hm:(K.tm t).length=z1x c t:=(h.tm t ht).1;have hok:zjy (K.cx t):=by rw [hcx];exact ⟨(h.T t ht).rg,(h.tm t ht).2⟩
 have hd:=z6N hi hok;have hat:=(h.T t ht).at_;have e1:knP b x c K=z3v x.ta.b (x.ta.o+t*15+5) (x.tv t) (K.cx t)*(pts x.ta.b (x.ta.o+t*15) (tsL (K.T t))*R):=by
  have:=hR (K.T t) (K.tm t);rw [z0c b x c K t] at this;rw [this,hcx];unfold zcp z3v;dsimp only;rw [hm]
  ac_rfl
 have e2:knP b x c (K.putCx t (doI i (K.cx t)).2)=z3v x.ta.b (x.ta.o+t*15+5) (x.tv t) (doI i (K.cx t)).2*(pts x.ta.b (x.ta.o+t*15) (tsL (K.T t))*R):=by
  have:=hR { K.T t with at_:=(doI i (K.cx t)).2.at_,rg:=(doI i (K.cx t)).2.rg } (doI i (K.cx t)).2.mem;have e3:K.putCx t (doI i (K.cx t)).2=(K.setT t { K.T t with at_:=(doI i (K.cx t)).2.at_,rg:=(doI i (K.cx t)).2.rg }).wTm (upd K.tm t (doI i (K.cx t)).2.mem):=by unfold Kn.putCx;rw [if_pos t64];rfl
  rw [e3,this];unfold zcp z3v;dsimp only;have e4:(doI i (K.cx t)).2.mem.length=z1x c t:=by rw [hd.2,hcx];exact hm
  rw [e4]
  ac_rfl
 exact z59 e1 e2 hs fun hs=>zjL _ _ _ _ i hi hop ⟨hok.rg,by rw [hcx];exact hat,by rw [hcx];show (K.tm t).length≤256;rw [hm];have:=(h.cf.t t ht).2.2.2.2.1;unfold z1x;omega⟩ w0 w _ hs
section
variable {c:Cf} {K:Kn} {t:Nat} {value:Int}
theorem zeT (hf:z0h K.R=some t) (hr:(t:Int)=K.run):K.dispatch c value=K.go c t value:=by
 unfold Kn.dispatch;rw [hf];dsimp only;rw [if_pos hr]
theorem zhd (hf:z0h K.R=some t) (hr:¬ (t:Int)=K.run):K.dispatch c value=(((K.tell c 5 t K.run 0).cost 10).wRun t).go c t value:=by
 unfold Kn.dispatch;rw [hf];dsimp only;rw [if_neg hr];rfl
theorem zeR (hf:z0h K.R=none) (hr:(255:Int)=K.run):K.dispatch c value=K.cost 1:=by
 unfold Kn.dispatch;rw [hf];dsimp only;rw [if_pos hr]
theorem zeS (hf:z0h K.R=none) (hr:¬ (255:Int)=K.run):K.dispatch c value=(((K.tell c 5 255 K.run 0).cost 10).wRun 255).cost 1:=by
 unfold Kn.dispatch;rw [hf];dsimp only;rw [if_neg hr];rfl
theorem zlP (hop:(K.ins c t).op≤20) (hr:(doI (K.ins c t) ((K.paid c t).cx t)).1=0):K.go c t value=(K.paid c t).putCx t (doI (K.ins c t) ((K.paid c t).cx t)).2:=by
 unfold Kn.go;dsimp only;rw [if_pos hop,if_pos hr]
theorem zja (hop:(K.ins c t).op≤20) (hr:¬ (doI (K.ins c t) ((K.paid c t).cx t)).1=0):K.go c t value=(((K.paid c t).putCx t (doI (K.ins c t) ((K.paid c t).cx t)).2).tell c 21 t (doI (K.ins c t) ((K.paid c t).cx t)).1 0).gone c t 8:=by
 unfold Kn.go;dsimp only;rw [if_pos hop,if_neg hr]
theorem zcP (hop:(K.ins c t).op=37):K.go c t value=(((K.paid c t).fwd t).tell c 22 t 0 0).gone c t 7:=by
 unfold Kn.go;dsimp only;rw [if_neg (by have:(z0j (tcg c t).code (K.T t).at_ 37).op=37:=hop;omega),if_pos hop]
theorem zjb (hop:¬ (K.ins c t).op≤20) (hop2:¬ (K.ins c t).op=37):K.go c t value=((K.paid c t).fwd t).serveTask c t (K.ins c t) value:=by
 unfold Kn.go;dsimp only;rw [if_neg hop,if_neg hop2]
theorem zg3 (h:Inv c K) (ht:t<c.ts.length):(K.ins c t).op≠38:=by
 have ha:=(h.T t ht).at_
 rcases z3H (l:=(tcg c t).code) (a:=(K.T t).at_) (last:=37) ha.1 with ⟨g1,g2,g3⟩ | ⟨_,g2⟩
 ·have hm:=z4D (h.cf.tc t ht _ g3).1;unfold Kn.ins;rw [g2];intro e;unfold may at hm;rw [if_pos e] at hm;exact absurd hm (by decide)
 ·unfold Kn.ins;rw [g2];show (37:Int)≠38;decide
end
theorem z80 (b:Nat) (x:Fx) (c:Cf) (K:Kn) (h:Inv c K) (t:Nat) (hf:z0h K.R=some t) (hr:(t:Int)=K.run) (K1:Kn) (hK1:K1=K) (hin:(K1.T t).at_<(tcg c t).code.length) (hop:(K1.ins c t).op≤20) (hr0:(doI (K1.ins c t) ((K1.paid c t).cx t)).1=0) (value:Int) (hvl:zG value) (w0 w:World) (hT:Tab w0) (F:HP) (hs:Sat w0 w (knP b x c K*F)) (hl:K.told.length≤99000) :
  Calls Tryz.prog 79 #[.pointer (some ⟨b,0,none⟩),.int .u32 value] w (zp w0 (.tuple #[]) (knP b x c (K1.go c t value)*F)):=by
 have cf:=h.cf;have hnt:=cf.nt;obtain ⟨lv,hlv⟩:=z0q hf;obtain ⟨ht,hst⟩:=h.rdy lv t hlv;have hF:=hid (fun w G hs=>z1G b x c K w0 w G hs t hf hT);subst hK1;have h1:=h;have hst1:=hst;have hl1:K1.told.length≤99001:=by omega
 have er:K1.run=(t:Int):=hr.symm;clear hr;have hi:=z0k cf ht (h1.T t ht).at_.1;have hcz:=z0s hi;have hcl:=(cf.t t ht).2.2.2.2.2;obtain ⟨n,hat⟩:=Int.eq_ofNat_of_zero_le (h1.T t ht).at_.1;have hn300:n≤300:=by have:=(h1.T t ht).at_.2;omega
 have hcyc:=h1.cyc;obtain ⟨z,hz⟩:∃ z,z=zT (K1.ins c t):=⟨_,rfl⟩;obtain ⟨y2,hy2⟩:∃ y2,y2=(K1.cycle+z)%18446744073709551616:=⟨_,rfl⟩;have hp:K1.paid c t=K1.wCycle y2:=by rw [hy2,hz];rfl
 have hzr:1≤z∧z≤1000:=by rw [hz];exact hcz
 have u1:IntKind.u64.wrap z=z:=by rw [IntKind.wrap_u64];omega
 have u2:IntKind.u64.wrap (K1.cycle+z)=y2:=by rw [IntKind.wrap_u64,hy2]
 have u3:(K1.cycle+z)%18446744073709551616=y2:=hy2.symm;have u4:IntKind.i64.wrap ((n:Int)+1)=(n:Int)+1:=by rw [IntKind.wrap_i64];omega
 have hC:=hid (fun (w:World) (G:HP) (hs:Sat w0 w (knP b x c K1*G))=>z1g (K1.ins c t) z hz.symm hi.form hi.k w0 w _ hs);haveI:Lt t c.ts.length:=⟨ht⟩;have a1:=x.ta.ad_pos (show 0<c.ts.length by omega);have a2:=x.c.ct.ad_pos (show 0<c.ts.length by omega);have i1:(t:Int)<(c.ts.length:Int):=by omega
 have d1:decide (t<c.ts.length)=true:=decide_eq_true ht;have hnl:n<(tcg c t).code.length:=by rw [hat] at hin;omega
 haveI:Lt n (tcg c t).code.length:=⟨hnl⟩;have a3:=(x.c.tv t).ad_pos (show 0<(tcg c t).code.length by omega);have i2:(n:Int)<((tcg c t).code.length:Int):=by omega
 have d2:decide (n<(tcg c t).code.length)=true:=decide_eq_true hnl;have hie:K1.ins c t=zM (tcg c t).code n:=by unfold Kn.ins z0j;rw [if_pos hin,hat]
 have hpl:=z4G h1 ht hst1 hop;have hx:=hid (zlP (value:=value) hop hr0);have hD:=hid (fun w G hs=>zmW b x c (K1.paid c t) t (zU h1 _) ht (K1.ins c t) hi hop w0 w G hs);rw [hr0] at hD;rw [hp] at hx hD;rw [hie] at hx hD hC hop;rw [hx.out];obtain ⟨j,hj⟩:∃ j,j=zM (tcg c t).code n:=⟨_,rfl⟩;rw [← hj] at hx hD hC hop ⊢;have hin':zM (tcg c t).code n=j:=hj.symm;obtain ⟨op,a,b',c',d,k⟩:=j;have f1:decide (op≤20)=true:=decide_eq_true hop;clear h h1 hi hx hf hlv hst hst1 hcz hcl hcyc hz hy2 hp hzr hie hin hvl hT hl hl1 cf hpl hr0 hj hop
 go_enter Tryz.func79,Tryz.ntmps79
 go_wp2_with fail;refine (hF.out _ _ own).mono ?_;rintro en w1 ⟨rfl,hs1⟩;clear hs;go_wp2_with fail;refine z9 (w0:=w0) ?_;intro wx hsx;clear hs1;refine zw (fun w'=>w'.cell? ⟨b,1,none⟩=some (.int .u64 K1.cycle)∧w'.cell? ⟨w1.heap.size,0,none⟩=some (.int .i64 op)∧w'.cell? ⟨w1.heap.size,1,none⟩=some (.int .i64 a)∧w'.cell? ⟨w1.heap.size,2,none⟩=some (.int .i64 b')∧w'.cell? ⟨w1.heap.size,3,none⟩=some (.int .i64 c')∧w'.cell? ⟨w1.heap.size,4,none⟩=some (.int .i64 d)∧w'.cell? ⟨w1.heap.size,5,none⟩=some (.int .u32 k)) 12 [(0,0),(1,0),(2,0),(3,0),(4,1),(5,1),(6,2),(7,0),(8,0),(9,0),(10,0),(11,0),(12,2)] (by kernel_rfl) (by kernel_rfl) (fun _ _ _ _ h=>h) ⟨z4,z4,z4,z4,z4,z4,z4⟩ ?_
 iterate 6 (first | refine zt1 ?_ | refine zt3 ?_ | refine zt0 ?_ | refine zt2 ?_)
 refine zpN rfl (by rfl) (fun K hK=>?_);go_wp2_with fail;refine (hC.out _ _ own).mono ?_;rintro en w3 ⟨rfl,hs3⟩;clear hsx;go_wp2_with fail
 (first | refine ⟨fun _=>⟨z4,z4,z4,z4,z4,z4,z4⟩,?_⟩ | refine ⟨fun h=>absurd rfl h,?_⟩ | skip)
 iterate 5 (first | refine zt1 ?_ | refine zt3 ?_ | refine zt0 ?_ | refine zt2 ?_)
 refine zpN rfl (by rfl) (fun K hK=>?_);go_wp2_with fail
 (first | refine ⟨fun _=>⟨z4,z4,z4,z4,z4,z4,z4⟩,?_⟩ | refine ⟨fun h=>absurd rfl h,?_⟩ | skip)
 refine z0b ?_;go_wp2_with fail;refine (hD.out _ _ own).mono ?_;rintro en w4 ⟨rfl,hs4⟩;go_wp2_with fail
 go_end0
 exact ⟨rfl,z3⟩
theorem z76 (b:Nat) (x:Fx) (c:Cf) (K:Kn) (h:Inv c K) (t:Nat) (hf:z0h K.R=some t) (hr:(t:Int)=K.run) (K1:Kn) (hK1:K1=K) (hin:(K1.T t).at_<(tcg c t).code.length) (hop:(K1.ins c t).op≤20) (hr0:¬ (doI (K1.ins c t) ((K1.paid c t).cx t)).1=0) (value:Int) (hvl:zG value) (w0 w:World) (hT:Tab w0) (F:HP) (hs:Sat w0 w (knP b x c K*F)) (hl:K.told.length≤99000) :
  Calls Tryz.prog 79 #[.pointer (some ⟨b,0,none⟩),.int .u32 value] w (zp w0 (.tuple #[]) (knP b x c (K1.go c t value)*F)):=by
 have cf:=h.cf;have hnt:=cf.nt;obtain ⟨lv,hlv⟩:=z0q hf;obtain ⟨ht,hst⟩:=h.rdy lv t hlv;have hF:=hid (fun w G hs=>z1G b x c K w0 w G hs t hf hT);subst hK1;have h1:=h;have hst1:=hst;have hl1:K1.told.length≤99001:=by omega
 have er:K1.run=(t:Int):=hr.symm;clear hr;have hi:=z0k cf ht (h1.T t ht).at_.1;have hcz:=z0s hi;have hcl:=(cf.t t ht).2.2.2.2.2;obtain ⟨n,hat⟩:=Int.eq_ofNat_of_zero_le (h1.T t ht).at_.1;have hn300:n≤300:=by have:=(h1.T t ht).at_.2;omega
 have hcyc:=h1.cyc;obtain ⟨z,hz⟩:∃ z,z=zT (K1.ins c t):=⟨_,rfl⟩;obtain ⟨y2,hy2⟩:∃ y2,y2=(K1.cycle+z)%18446744073709551616:=⟨_,rfl⟩;have hp:K1.paid c t=K1.wCycle y2:=by rw [hy2,hz];rfl
 have hzr:1≤z∧z≤1000:=by rw [hz];exact hcz
 have u1:IntKind.u64.wrap z=z:=by rw [IntKind.wrap_u64];omega
 have u2:IntKind.u64.wrap (K1.cycle+z)=y2:=by rw [IntKind.wrap_u64,hy2]
 have u3:(K1.cycle+z)%18446744073709551616=y2:=hy2.symm;have u4:IntKind.i64.wrap ((n:Int)+1)=(n:Int)+1:=by rw [IntKind.wrap_i64];omega
 have hC:=hid (fun (w:World) (G:HP) (hs:Sat w0 w (knP b x c K1*G))=>z1g (K1.ins c t) z hz.symm hi.form hi.k w0 w _ hs);haveI:Lt t c.ts.length:=⟨ht⟩;have a1:=x.ta.ad_pos (show 0<c.ts.length by omega);have a2:=x.c.ct.ad_pos (show 0<c.ts.length by omega);have i1:(t:Int)<(c.ts.length:Int):=by omega
 have d1:decide (t<c.ts.length)=true:=decide_eq_true ht;have hnl:n<(tcg c t).code.length:=by rw [hat] at hin;omega
 haveI:Lt n (tcg c t).code.length:=⟨hnl⟩;have a3:=(x.c.tv t).ad_pos (show 0<(tcg c t).code.length by omega);have i2:(n:Int)<((tcg c t).code.length:Int):=by omega
 have d2:decide (n<(tcg c t).code.length)=true:=decide_eq_true hnl;have hie:K1.ins c t=zM (tcg c t).code n:=by unfold Kn.ins z0j;rw [if_pos hin,hat]
 have hpl:=z4G h1 ht hst1 hop;have hx:=hid (zja (value:=value) hop hr0);have hD:=hid (fun w G hs=>zmW b x c (K1.paid c t) t (zU h1 _) ht (K1.ins c t) hi hop w0 w G hs);have hsm:=z3x (K1.ins c t) ((K1.paid c t).cx t);obtain ⟨r,hrr⟩:∃ r,r=doI (K1.ins c t) ((K1.paid c t).cx t):=⟨_,rfl⟩;rw [← hrr] at hx hD hr0 hsm hpl;have z1:(r.1 != 0)=true:=by simp [hr0]
 have h4:=zl hpl.1 21 t r.1 0;have hrd:=z2B h4 ht (by rw [z01];exact hpl.2);have h5:=zbT h4 hrd (status:=8) (.inr rfl);have l5:=zW (c:=c) ((K1.paid c t).putCx t r.2) 21 t r.1 0;have l6:((K1.paid c t).putCx t r.2).told=K1.told:=(z0Z (K:=K1.paid c t) (who:=t) r.2).1;rw [l6] at l5;have hB:=hid (fun (kI:Int) (hk:kI=21) (w:World) (G:HP) (hs:Sat w0 w (knP b x c ((K1.paid c t).putCx t r.2)*G))=>zN b x c _ 21 kI hk t r.1 0 w0 w G hs cf (by decide) ⟨by omega,by omega⟩ ⟨by omega,by omega⟩ ⟨by decide,by decide⟩ (by rw [l6];omega));have hG:=hid (fun (w:World) (G:HP) (hs:Sat w0 w (knP b x c (((K1.paid c t).putCx t r.2).tell c 21 t r.1 0)*G))=>z8m b x c _ t 8 h5 ht w0 w G hs (by omega));rw [hp] at hx hD hB hG;rw [hie] at  hD hC hop;rw [hx.out];obtain ⟨j,hj⟩:∃ j,j=zM (tcg c t).code n:=⟨_,rfl⟩;rw [← hj] at hD hC hop;have hin':zM (tcg c t).code n=j:=hj.symm;obtain ⟨op,a,b',c',d,k⟩:=j;have f1:decide (op≤20)=true:=decide_eq_true hop;clear h h1 hi hx hf hlv hst hst1 hcz hcl hcyc hz hy2 hp hzr hie hin hvl hT hl hl1 cf hpl hr0 hj hop hsm hrr h4 hrd h5 l5 l6
 go_enter Tryz.func79,Tryz.ntmps79
 go_wp2_with fail;refine (hF.out _ _ own).mono ?_;rintro en w1 ⟨rfl,hs1⟩;clear hs;go_wp2_with fail;refine z9 (w0:=w0) ?_;intro wx hsx;clear hs1;refine zw (fun w'=>w'.cell? ⟨b,1,none⟩=some (.int .u64 K1.cycle)∧w'.cell? ⟨w1.heap.size,0,none⟩=some (.int .i64 op)∧w'.cell? ⟨w1.heap.size,1,none⟩=some (.int .i64 a)∧w'.cell? ⟨w1.heap.size,2,none⟩=some (.int .i64 b')∧w'.cell? ⟨w1.heap.size,3,none⟩=some (.int .i64 c')∧w'.cell? ⟨w1.heap.size,4,none⟩=some (.int .i64 d)∧w'.cell? ⟨w1.heap.size,5,none⟩=some (.int .u32 k)) 12 [(0,0),(1,0),(2,0),(3,0),(4,1),(5,1),(6,2),(7,0),(8,0),(9,0),(10,0),(11,0),(12,2)] (by kernel_rfl) (by kernel_rfl) (fun _ _ _ _ h=>h) ⟨z4,z4,z4,z4,z4,z4,z4⟩ ?_
 iterate 6 (first | refine zt1 ?_ | refine zt3 ?_ | refine zt0 ?_ | refine zt2 ?_)
 refine zpN rfl (by rfl) (fun K hK=>?_);go_wp2_with fail;refine (hC.out _ _ own).mono ?_;rintro en w3 ⟨rfl,hs3⟩;clear hsx;go_wp2_with fail
 (first | refine ⟨fun _=>⟨z4,z4,z4,z4,z4,z4,z4⟩,?_⟩ | refine ⟨fun h=>absurd rfl h,?_⟩ | skip)
 iterate 5 (first | refine zt1 ?_ | refine zt3 ?_ | refine zt0 ?_ | refine zt2 ?_)
 refine zpN rfl (by rfl) (fun K hK=>?_);go_wp2_with fail
 (first | refine ⟨fun _=>⟨z4,z4,z4,z4,z4,z4,z4⟩,?_⟩ | refine ⟨fun h=>absurd rfl h,?_⟩ | skip)
 refine z0b ?_;go_wp2_with fail;refine (hD.out _ _ own).mono ?_;rintro en w4 ⟨rfl,hs4⟩;go_wp2_with fail;refine (hB.out _ rfl _ _ own).mono ?_;rintro en w5 ⟨rfl,hs5⟩;go_wp2_with fail;refine (hG.out _ _ own).mono ?_;rintro en w6 ⟨rfl,hs6⟩;go_wp2_with fail
 go_end0
 exact ⟨rfl,z3⟩
theorem z67 (b:Nat) (x:Fx) (c:Cf) (K:Kn) (h:Inv c K) (t:Nat) (hf:z0h K.R=some t) (hr:(t:Int)=K.run) (K1:Kn) (hK1:K1=K) (hin:(K1.T t).at_<(tcg c t).code.length) (hop:(K1.ins c t).op=37) (value:Int) (hvl:zG value) (w0 w:World) (hT:Tab w0) (F:HP) (hs:Sat w0 w (knP b x c K*F)) (hl:K.told.length≤99000) :
  Calls Tryz.prog 79 #[.pointer (some ⟨b,0,none⟩),.int .u32 value] w (zp w0 (.tuple #[]) (knP b x c (K1.go c t value)*F)):=by
 have cf:=h.cf;have hnt:=cf.nt;obtain ⟨lv,hlv⟩:=z0q hf;obtain ⟨ht,hst⟩:=h.rdy lv t hlv;have hF:=hid (fun w G hs=>z1G b x c K w0 w G hs t hf hT);subst hK1;have h1:=h;have hst1:=hst;have hl1:K1.told.length≤99001:=by omega
 have er:K1.run=(t:Int):=hr.symm;clear hr;have hi:=z0k cf ht (h1.T t ht).at_.1;have hcz:=z0s hi;have hcl:=(cf.t t ht).2.2.2.2.2;obtain ⟨n,hat⟩:=Int.eq_ofNat_of_zero_le (h1.T t ht).at_.1;have hn300:n≤300:=by have:=(h1.T t ht).at_.2;omega
 have hcyc:=h1.cyc;obtain ⟨z,hz⟩:∃ z,z=zT (K1.ins c t):=⟨_,rfl⟩;obtain ⟨y2,hy2⟩:∃ y2,y2=(K1.cycle+z)%18446744073709551616:=⟨_,rfl⟩;have hp:K1.paid c t=K1.wCycle y2:=by rw [hy2,hz];rfl
 have hzr:1≤z∧z≤1000:=by rw [hz];exact hcz
 have u1:IntKind.u64.wrap z=z:=by rw [IntKind.wrap_u64];omega
 have u2:IntKind.u64.wrap (K1.cycle+z)=y2:=by rw [IntKind.wrap_u64,hy2]
 have u3:(K1.cycle+z)%18446744073709551616=y2:=hy2.symm;have u4:IntKind.i64.wrap ((n:Int)+1)=(n:Int)+1:=by rw [IntKind.wrap_i64];omega
 have hC:=hid (fun (w:World) (G:HP) (hs:Sat w0 w (knP b x c K1*G))=>z1g (K1.ins c t) z hz.symm hi.form hi.k w0 w _ hs);haveI:Lt t c.ts.length:=⟨ht⟩;have a1:=x.ta.ad_pos (show 0<c.ts.length by omega);have a2:=x.c.ct.ad_pos (show 0<c.ts.length by omega);have i1:(t:Int)<(c.ts.length:Int):=by omega
 have d1:decide (t<c.ts.length)=true:=decide_eq_true ht;have hnl:n<(tcg c t).code.length:=by rw [hat] at hin;omega
 haveI:Lt n (tcg c t).code.length:=⟨hnl⟩;have a3:=(x.c.tv t).ad_pos (show 0<(tcg c t).code.length by omega);have i2:(n:Int)<((tcg c t).code.length:Int):=by omega
 have d2:decide (n<(tcg c t).code.length)=true:=decide_eq_true hnl;have hie:K1.ins c t=zM (tcg c t).code n:=by unfold Kn.ins z0j;rw [if_pos hin,hat]
 have hx:=hid (zcP (value:=value) hop);have h5:=z6R h1 ht hst1;have l5:=zW (c:=c) ((K1.paid c t).fwd t) 22 t 0 0;have l6:((K1.paid c t).fwd t).told=K1.told:=rfl;rw [l6] at l5;have hB:=hid (fun (kI:Int) (hk:kI=22) (w:World) (G:HP) (hs:Sat w0 w (knP b x c ((K1.paid c t).fwd t)*G))=>zN b x c _ 22 kI hk t 0 0 w0 w G hs cf (by decide) ⟨by omega,by omega⟩ ⟨by decide,by decide⟩ ⟨by decide,by decide⟩ (by rw [l6];omega));have hG:=hid (fun (w:World) (G:HP) (hs:Sat w0 w (knP b x c (((K1.paid c t).fwd t).tell c 22 t 0 0)*G))=>z8m b x c _ t 7 h5 ht w0 w G hs (by omega));have hfw:(K1.paid c t).fwd t=(K1.wCycle y2).wAt t ((n:Int)+1):=by rw [← hat,hy2,hz];rfl
 rw [hfw] at hx hB hG;rw [hie] at hC hop;rw [hx.out];obtain ⟨j,hj⟩:∃ j,j=zM (tcg c t).code n:=⟨_,rfl⟩;rw [← hj] at hC hop;have hin':zM (tcg c t).code n=j:=hj.symm;obtain ⟨op,a,b',c',d,k⟩:=j;have ho:op=37:=hop;subst ho;clear h h1 hi hx hf hlv hst hst1 hcz hcl hcyc hz hy2 hp hzr hie hin hvl hT hl hl1 cf h5 l5 l6 hfw hj hop
 go_enter Tryz.func79,Tryz.ntmps79
 go_wp2_with fail;refine (hF.out _ _ own).mono ?_;rintro en w1 ⟨rfl,hs1⟩;clear hs;go_wp2_with fail;refine z9 (w0:=w0) ?_;intro wx hsx;clear hs1;refine zw (fun w'=>w'.cell? ⟨b,1,none⟩=some (.int .u64 K1.cycle)∧w'.cell? ⟨w1.heap.size,0,none⟩=some (.int .i64 37)∧w'.cell? ⟨w1.heap.size,1,none⟩=some (.int .i64 a)∧w'.cell? ⟨w1.heap.size,2,none⟩=some (.int .i64 b')∧w'.cell? ⟨w1.heap.size,3,none⟩=some (.int .i64 c')∧w'.cell? ⟨w1.heap.size,4,none⟩=some (.int .i64 d)∧w'.cell? ⟨w1.heap.size,5,none⟩=some (.int .u32 k)) 12 [(0,0),(1,0),(2,0),(3,0),(4,1),(5,1),(6,2),(7,0),(8,0),(9,0),(10,0),(11,0),(12,2)] (by kernel_rfl) (by kernel_rfl) (fun _ _ _ _ h=>h) ⟨z4,z4,z4,z4,z4,z4,z4⟩ ?_
 iterate 6 (first | refine zt1 ?_ | refine zt3 ?_ | refine zt0 ?_ | refine zt2 ?_)
 refine zpN rfl (by rfl) (fun K hK=>?_);go_wp2_with fail;refine (hC.out _ _ own).mono ?_;rintro en w3 ⟨rfl,hs3⟩;clear hsx;go_wp2_with fail
 (first | refine ⟨fun _=>⟨z4,z4,z4,z4,z4,z4,z4⟩,?_⟩ | refine ⟨fun h=>absurd rfl h,?_⟩ | skip)
 iterate 5 (first | refine zt1 ?_ | refine zt3 ?_ | refine zt0 ?_ | refine zt2 ?_)
 refine zpN rfl (by rfl) (fun K hK=>?_);go_wp2_with fail
 (first | refine ⟨fun _=>⟨z4,z4,z4,z4,z4,z4,z4⟩,?_⟩ | refine ⟨fun h=>absurd rfl h,?_⟩ | skip)
 refine z0b ?_;go_wp2_with fail;refine (hB.out _ rfl _ _ own).mono ?_;rintro en w4 ⟨rfl,hs4⟩;go_wp2_with fail;refine (hG.out _ _ own).mono ?_;rintro en w5 ⟨rfl,hs5⟩;go_wp2_with fail
 go_end0
 exact ⟨rfl,z3⟩
theorem z78 (b:Nat) (x:Fx) (c:Cf) (K:Kn) (h:Inv c K) (t:Nat) (hf:z0h K.R=some t) (hr:(t:Int)=K.run) (K1:Kn) (hK1:K1=K) (hin:(K1.T t).at_<(tcg c t).code.length) (hop:¬ (K1.ins c t).op≤20) (hop2:¬ (K1.ins c t).op=37) (value:Int) (hvl:zG value) (w0 w:World) (hT:Tab w0) (F:HP) (hs:Sat w0 w (knP b x c K*F)) (hl:K.told.length≤99000) :
  Calls Tryz.prog 79 #[.pointer (some ⟨b,0,none⟩),.int .u32 value] w (zp w0 (.tuple #[]) (knP b x c (K1.go c t value)*F)):=by
 have cf:=h.cf;have hnt:=cf.nt;obtain ⟨lv,hlv⟩:=z0q hf;obtain ⟨ht,hst⟩:=h.rdy lv t hlv;have hF:=hid (fun w G hs=>z1G b x c K w0 w G hs t hf hT);subst hK1;have h1:=h;have hst1:=hst;have hl1:K1.told.length≤99001:=by omega
 have er:K1.run=(t:Int):=hr.symm;clear hr;have hi:=z0k cf ht (h1.T t ht).at_.1;have hcz:=z0s hi;have hcl:=(cf.t t ht).2.2.2.2.2;obtain ⟨n,hat⟩:=Int.eq_ofNat_of_zero_le (h1.T t ht).at_.1;have hn300:n≤300:=by have:=(h1.T t ht).at_.2;omega
 have hcyc:=h1.cyc;obtain ⟨z,hz⟩:∃ z,z=zT (K1.ins c t):=⟨_,rfl⟩;obtain ⟨y2,hy2⟩:∃ y2,y2=(K1.cycle+z)%18446744073709551616:=⟨_,rfl⟩;have hp:K1.paid c t=K1.wCycle y2:=by rw [hy2,hz];rfl
 have hzr:1≤z∧z≤1000:=by rw [hz];exact hcz
 have u1:IntKind.u64.wrap z=z:=by rw [IntKind.wrap_u64];omega
 have u2:IntKind.u64.wrap (K1.cycle+z)=y2:=by rw [IntKind.wrap_u64,hy2]
 have u3:(K1.cycle+z)%18446744073709551616=y2:=hy2.symm;have u4:IntKind.i64.wrap ((n:Int)+1)=(n:Int)+1:=by rw [IntKind.wrap_i64];omega
 have hC:=hid (fun (w:World) (G:HP) (hs:Sat w0 w (knP b x c K1*G))=>z1g (K1.ins c t) z hz.symm hi.form hi.k w0 w _ hs);haveI:Lt t c.ts.length:=⟨ht⟩;have a1:=x.ta.ad_pos (show 0<c.ts.length by omega);have a2:=x.c.ct.ad_pos (show 0<c.ts.length by omega);have i1:(t:Int)<(c.ts.length:Int):=by omega
 have d1:decide (t<c.ts.length)=true:=decide_eq_true ht;have hnl:n<(tcg c t).code.length:=by rw [hat] at hin;omega
 haveI:Lt n (tcg c t).code.length:=⟨hnl⟩;have a3:=(x.c.tv t).ad_pos (show 0<(tcg c t).code.length by omega);have i2:(n:Int)<((tcg c t).code.length:Int):=by omega
 have d2:decide (n<(tcg c t).code.length)=true:=decide_eq_true hnl;have hie:K1.ins c t=zM (tcg c t).code n:=by unfold Kn.ins z0j;rw [if_pos hin,hat]
 have hx:=hid (zjb (value:=value) hop hop2);obtain ⟨h4,h5⟩:=zbx h1 ht hst1 hop2;have h38:=zg3 h1 ht;have h38':=hi.op;have hS:=hid (fun (w:World) (G:HP) (hs:Sat w0 w (knP b x c ((K1.paid c t).fwd t)*G))=>z7d b x c _ t x.ta.b (x.ta.o+t*15+5) ⟨.inl ⟨by omega,ht,rfl,rfl⟩⟩ (K1.ins c t) hi h4 ht h5 ⟨by omega,by have:(K1.ins c t).op≤38:=h38'.2;omega⟩ value hvl w0 w G hs (by show K1.told.length≤99800;omega));have hfw:(K1.paid c t).fwd t=(K1.wCycle y2).wAt t ((n:Int)+1):=by rw [← hat,hy2,hz];rfl
 rw [hfw] at hx hS;rw [hie] at hx hS hC hop hop2;rw [hx.out];obtain ⟨j,hj⟩:∃ j,j=zM (tcg c t).code n:=⟨_,rfl⟩;rw [← hj] at hx hS hC hop hop2 ⊢;have hin':zM (tcg c t).code n=j:=hj.symm;obtain ⟨op,a,b',c',d,k⟩:=j;have f1:decide (op≤20)=false:=decide_eq_false hop;have f2:(op==37)=false:=by simpa using hop2
 clear h h1 hi hx hf hlv hst hst1 hcz hcl hcyc hz hy2 hp hzr hie hin hvl hT hl hl1 cf h4 h5 h38 h38' hfw hj hop hop2
 go_enter Tryz.func79,Tryz.ntmps79
 go_wp2_with fail;refine (hF.out _ _ own).mono ?_;rintro en w1 ⟨rfl,hs1⟩;clear hs;go_wp2_with fail;refine z9 (w0:=w0) ?_;intro wx hsx;clear hs1;refine zw (fun w'=>w'.cell? ⟨b,1,none⟩=some (.int .u64 K1.cycle)∧w'.cell? ⟨w1.heap.size,0,none⟩=some (.int .i64 op)∧w'.cell? ⟨w1.heap.size,1,none⟩=some (.int .i64 a)∧w'.cell? ⟨w1.heap.size,2,none⟩=some (.int .i64 b')∧w'.cell? ⟨w1.heap.size,3,none⟩=some (.int .i64 c')∧w'.cell? ⟨w1.heap.size,4,none⟩=some (.int .i64 d)∧w'.cell? ⟨w1.heap.size,5,none⟩=some (.int .u32 k)) 12 [(0,0),(1,0),(2,0),(3,0),(4,1),(5,1),(6,2),(7,0),(8,0),(9,0),(10,0),(11,0),(12,2)] (by kernel_rfl) (by kernel_rfl) (fun _ _ _ _ h=>h) ⟨z4,z4,z4,z4,z4,z4,z4⟩ ?_
 iterate 6 (first | refine zt1 ?_ | refine zt3 ?_ | refine zt0 ?_ | refine zt2 ?_)
 refine zpN rfl (by rfl) (fun K hK=>?_);go_wp2_with fail;refine (hC.out _ _ own).mono ?_;rintro en w3 ⟨rfl,hs3⟩;clear hsx;go_wp2_with fail
 (first | refine ⟨fun _=>⟨z4,z4,z4,z4,z4,z4,z4⟩,?_⟩ | refine ⟨fun h=>absurd rfl h,?_⟩ | skip)
 iterate 5 (first | refine zt1 ?_ | refine zt3 ?_ | refine zt0 ?_ | refine zt2 ?_)
 refine zpN rfl (by rfl) (fun K hK=>?_);go_wp2_with fail
 (first | refine ⟨fun _=>⟨z4,z4,z4,z4,z4,z4,z4⟩,?_⟩ | refine ⟨fun h=>absurd rfl h,?_⟩ | skip)
 refine z0b ?_;go_wp2_with fail;refine (hS.out _ _ own).mono ?_;rintro en w4 ⟨rfl,hs4⟩;go_wp2_with fail
 go_end0
 exact ⟨rfl,z3⟩
theorem z77 (b:Nat) (x:Fx) (c:Cf) (K:Kn) (h:Inv c K) (t:Nat) (hf:z0h K.R=some t) (hr:(t:Int)=K.run) (K1:Kn) (hK1:K1=K) (hin:¬ (K1.T t).at_<(tcg c t).code.length) (value:Int) (hvl:zG value) (w0 w:World) (hT:Tab w0) (F:HP) (hs:Sat w0 w (knP b x c K*F)) (hl:K.told.length≤99000) :
  Calls Tryz.prog 79 #[.pointer (some ⟨b,0,none⟩),.int .u32 value] w (zp w0 (.tuple #[]) (knP b x c (K1.go c t value)*F)):=by
 have cf:=h.cf;have hnt:=cf.nt;obtain ⟨lv,hlv⟩:=z0q hf;obtain ⟨ht,hst⟩:=h.rdy lv t hlv;have hF:=hid (fun w G hs=>z1G b x c K w0 w G hs t hf hT);subst hK1;have h1:=h;have hst1:=hst;have hl1:K1.told.length≤99001:=by omega
 have er:K1.run=(t:Int):=hr.symm;clear hr;have hi:=z0k cf ht (h1.T t ht).at_.1;have hcz:=z0s hi;have hcl:=(cf.t t ht).2.2.2.2.2;obtain ⟨n,hat⟩:=Int.eq_ofNat_of_zero_le (h1.T t ht).at_.1;have hn300:n≤300:=by have:=(h1.T t ht).at_.2;omega
 have hcyc:=h1.cyc;obtain ⟨z,hz⟩:∃ z,z=zT (K1.ins c t):=⟨_,rfl⟩;obtain ⟨y2,hy2⟩:∃ y2,y2=(K1.cycle+z)%18446744073709551616:=⟨_,rfl⟩;have hp:K1.paid c t=K1.wCycle y2:=by rw [hy2,hz];rfl
 have hzr:1≤z∧z≤1000:=by rw [hz];exact hcz
 have u1:IntKind.u64.wrap z=z:=by rw [IntKind.wrap_u64];omega
 have u2:IntKind.u64.wrap (K1.cycle+z)=y2:=by rw [IntKind.wrap_u64,hy2]
 have u3:(K1.cycle+z)%18446744073709551616=y2:=hy2.symm;have u4:IntKind.i64.wrap ((n:Int)+1)=(n:Int)+1:=by rw [IntKind.wrap_i64];omega
 have hC:=hid (fun (w:World) (G:HP) (hs:Sat w0 w (knP b x c K1*G))=>z1g (K1.ins c t) z hz.symm hi.form hi.k w0 w _ hs);haveI:Lt t c.ts.length:=⟨ht⟩;have a1:=x.ta.ad_pos (show 0<c.ts.length by omega);have a2:=x.c.ct.ad_pos (show 0<c.ts.length by omega);have i1:(t:Int)<(c.ts.length:Int):=by omega
 have d1:decide (t<c.ts.length)=true:=decide_eq_true ht;have d2:decide (n<(tcg c t).code.length)=false:=by rw [hat] at hin;simp;omega
 have hie:K1.ins c t=⟨37,0,0,0,0,0⟩:=by unfold Kn.ins z0j;rw [if_neg hin]
 have hop:(K1.ins c t).op=37:=by rw [hie]
 have hx:=hid (zcP (value:=value) hop);have h5:=z6R h1 ht hst1;have l5:=zW (c:=c) ((K1.paid c t).fwd t) 22 t 0 0;have l6:((K1.paid c t).fwd t).told=K1.told:=rfl;rw [l6] at l5;have hB:=hid (fun (kI:Int) (hk:kI=22) (w:World) (G:HP) (hs:Sat w0 w (knP b x c ((K1.paid c t).fwd t)*G))=>zN b x c _ 22 kI hk t 0 0 w0 w G hs cf (by decide) ⟨by omega,by omega⟩ ⟨by decide,by decide⟩ ⟨by decide,by decide⟩ (by rw [l6];omega));have hG:=hid (fun (w:World) (G:HP) (hs:Sat w0 w (knP b x c (((K1.paid c t).fwd t).tell c 22 t 0 0)*G))=>z8m b x c _ t 7 h5 ht w0 w G hs (by omega));have hfw:(K1.paid c t).fwd t=(K1.wCycle y2).wAt t ((n:Int)+1):=by rw [← hat,hy2,hz];rfl
 rw [hfw] at hx hB hG;rw [hie] at hC hop;rw [hx.out];clear h h1 hi hx hf hlv hst hst1 hcz hcl hcyc hz hy2 hp hzr hie hin hvl hT hl hl1 cf h5 l5 l6 hfw hop
 go_enter Tryz.func79,Tryz.ntmps79
 go_wp2_with fail;refine (hF.out _ _ own).mono ?_;rintro en w1 ⟨rfl,hs1⟩;clear hs;go_wp2_with fail;refine z9 (w0:=w0) ?_;intro wx hsx;clear hs1;refine zw (fun w'=>w'.cell? ⟨b,1,none⟩=some (.int .u64 K1.cycle)∧w'.cell? ⟨w1.heap.size,0,none⟩=some (.int .i64 37)∧w'.cell? ⟨w1.heap.size,1,none⟩=some (.int .i64 0)∧w'.cell? ⟨w1.heap.size,2,none⟩=some (.int .i64 0)∧w'.cell? ⟨w1.heap.size,3,none⟩=some (.int .i64 0)∧w'.cell? ⟨w1.heap.size,4,none⟩=some (.int .i64 0)∧w'.cell? ⟨w1.heap.size,5,none⟩=some (.int .u32 0)) 12 [(0,0),(1,0),(2,0),(3,0),(4,1),(5,1),(6,2),(7,0),(8,0),(9,0),(10,0),(11,0),(12,2)] (by kernel_rfl) (by kernel_rfl) (fun _ _ _ _ h=>h) ⟨z4,z4,z4,z4,z4,z4,z4⟩ ?_
 iterate 6 (first | refine zt1 ?_ | refine zt3 ?_ | refine zt0 ?_ | refine zt2 ?_)
 refine zpN rfl (by rfl) (fun K hK=>?_);go_wp2_with fail;refine (hC.out _ _ own).mono ?_;rintro en w3 ⟨rfl,hs3⟩;clear hsx;go_wp2_with fail
 (first | refine ⟨fun _=>⟨z4,z4,z4,z4,z4,z4,z4⟩,?_⟩ | refine ⟨fun h=>absurd rfl h,?_⟩ | skip)
 iterate 5 (first | refine zt1 ?_ | refine zt3 ?_ | refine zt0 ?_ | refine zt2 ?_)
 refine zpN rfl (by rfl) (fun K hK=>?_);go_wp2_with fail
 (first | refine ⟨fun _=>⟨z4,z4,z4,z4,z4,z4,z4⟩,?_⟩ | refine ⟨fun h=>absurd rfl h,?_⟩ | skip)
 refine z0b ?_;go_wp2_with fail;refine (hB.out _ rfl _ _ own).mono ?_;rintro en w4 ⟨rfl,hs4⟩;go_wp2_with fail;refine (hG.out _ _ own).mono ?_;rintro en w5 ⟨rfl,hs5⟩;go_wp2_with fail
 go_end0
 exact ⟨rfl,z3⟩
theorem z90 (b:Nat) (x:Fx) (c:Cf) (K:Kn) (h:Inv c K) (t:Nat) (hf:z0h K.R=some t) (hr:¬ (t:Int)=K.run) (K1:Kn) (hK1:K1=((K.tell c 5 t K.run 0).cost 10).wRun t) (hin:(K1.T t).at_<(tcg c t).code.length) (hop:(K1.ins c t).op≤20) (hr0:(doI (K1.ins c t) ((K1.paid c t).cx t)).1=0) (value:Int) (hvl:zG value) (w0 w:World) (hT:Tab w0) (F:HP) (hs:Sat w0 w (knP b x c K*F)) (hl:K.told.length≤99000) :
  Calls Tryz.prog 79 #[.pointer (some ⟨b,0,none⟩),.int .u32 value] w (zp w0 (.tuple #[]) (knP b x c (K1.go c t value)*F)):=by
 have cf:=h.cf;have hnt:=cf.nt;obtain ⟨lv,hlv⟩:=z0q hf;obtain ⟨ht,hst⟩:=h.rdy lv t hlv;have hF:=hid (fun w G hs=>z1G b x c K w0 w G hs t hf hT);have hrun:zG K.run:=by rcases h.run with e | e<;>exact ⟨by omega,by omega⟩
 have h1:Inv c K1:=by
  rw [hK1];exact { zU (zl h 5 t K.run 0) 10 with run:=.inr ⟨by show (0:Int)≤t;omega,by show (t:Int)<_;omega⟩ }
 have hst1:(K1.T t).st=1:=by rw [hK1];show ((Kn.tell _ _ _ _ _ _).T t).st=1;rw [z01];exact hst
 have hl1:K1.told.length≤99001:=by rw [hK1];have:=zW (c:=c) K 5 t K.run 0;show (K.tell c 5 t K.run 0).told.length≤_;omega
 have hA:=hid (fun (kI:Int) (hk:kI=5) (w:World) (G:HP) (hs:Sat w0 w (knP b x c K*G))=>zN b x c K 5 kI hk t K.run 0 w0 w G hs cf (by decide) ⟨by omega,by omega⟩ hrun ⟨by decide,by decide⟩ (by omega));have er:((t:Int)==K.run)=false:=by simp [hr]
 obtain ⟨y1,hy1⟩:∃ y1,y1=((K.tell c 5 t K.run 0).cycle+10)%18446744073709551616:=⟨_,rfl⟩;have v1:IntKind.u64.wrap ((K.tell c 5 t K.run 0).cycle+10)=y1:=by rw [IntKind.wrap_u64,hy1]
 have v2:((K.tell c 5 t K.run 0).cycle+10)%18446744073709551616=y1:=hy1.symm;have HK1:Hid (K1=((K.tell c 5 t K.run 0).wCycle y1).wRun t):=by unfold Hid;rw [hK1,hy1];rfl
 have hKT:K1.T t=K.T t:=by rw [hK1];show (Kn.tell _ _ _ _ _ _).T t=K.T t;rw [z01]
 clear hK1 hr hrun hy1;have hi:=z0k cf ht (h1.T t ht).at_.1;have hcz:=z0s hi;have hcl:=(cf.t t ht).2.2.2.2.2;obtain ⟨n,hat⟩:=Int.eq_ofNat_of_zero_le (h1.T t ht).at_.1;have hn300:n≤300:=by have:=(h1.T t ht).at_.2;omega
 have hcyc:=h1.cyc;have hat0:(K.T t).at_=(n:Int):=by rw [← hKT];exact hat
 obtain ⟨z,hz⟩:∃ z,z=zT (K1.ins c t):=⟨_,rfl⟩;obtain ⟨y2,hy2⟩:∃ y2,y2=(K1.cycle+z)%18446744073709551616:=⟨_,rfl⟩;have hp:K1.paid c t=K1.wCycle y2:=by rw [hy2,hz];rfl
 have hzr:1≤z∧z≤1000:=by rw [hz];exact hcz
 have u1:IntKind.u64.wrap z=z:=by rw [IntKind.wrap_u64];omega
 have u2:IntKind.u64.wrap (K1.cycle+z)=y2:=by rw [IntKind.wrap_u64,hy2]
 have u3:(K1.cycle+z)%18446744073709551616=y2:=hy2.symm;have u4:IntKind.i64.wrap ((n:Int)+1)=(n:Int)+1:=by rw [IntKind.wrap_i64];omega
 have hC:=hid (fun (w:World) (G:HP) (hs:Sat w0 w (knP b x c K1*G))=>z1g (K1.ins c t) z hz.symm hi.form hi.k w0 w _ hs);haveI:Lt t c.ts.length:=⟨ht⟩;have a1:=x.ta.ad_pos (show 0<c.ts.length by omega);have a2:=x.c.ct.ad_pos (show 0<c.ts.length by omega);have i1:(t:Int)<(c.ts.length:Int):=by omega
 have d1:decide (t<c.ts.length)=true:=decide_eq_true ht;have hnl:n<(tcg c t).code.length:=by rw [hat] at hin;omega
 haveI:Lt n (tcg c t).code.length:=⟨hnl⟩;have a3:=(x.c.tv t).ad_pos (show 0<(tcg c t).code.length by omega);have i2:(n:Int)<((tcg c t).code.length:Int):=by omega
 have d2:decide (n<(tcg c t).code.length)=true:=decide_eq_true hnl;have hie:K1.ins c t=zM (tcg c t).code n:=by unfold Kn.ins z0j;rw [if_pos hin,hat]
 have hpl:=z4G h1 ht hst1 hop;have hx:=hid (zlP (value:=value) hop hr0);have hD:=hid (fun w G hs=>zmW b x c (K1.paid c t) t (zU h1 _) ht (K1.ins c t) hi hop w0 w G hs);rw [hr0] at hD;rw [hp] at hx hD;rw [hie] at hx hD hC hop;rw [hx.out];obtain ⟨j,hj⟩:∃ j,j=zM (tcg c t).code n:=⟨_,rfl⟩;rw [← hj] at hx hD hC hop ⊢;have hin':zM (tcg c t).code n=j:=hj.symm;obtain ⟨op,a,b',c',d,k⟩:=j;have f1:decide (op≤20)=true:=decide_eq_true hop;clear h h1 hi hx hf hlv hst hst1 hKT hcz hcl hcyc hz hy2 hp hzr hie hin hvl hT hl hl1 cf hpl hr0 hj hop
 go_enter Tryz.func79,Tryz.ntmps79
 go_wp2_with fail;refine (hF.out _ _ own).mono ?_;rintro en w1 ⟨rfl,hs1⟩;clear hs;go_wp2_with fail;refine (hA.out _ rfl _ _ z6).mono ?_;rintro en w2 ⟨rfl,hs2⟩;clear hs1;go_wp2_with fail;refine z9 (w0:=w0) ?_;intro wx hsx;have hsx:Sat w0 wx (pts w2.heap.size 0 [.int .i64 op,.int .i64 a,.int .i64 b',.int .i64 c',.int .i64 d,.int .u32 k]*(knP b x c K1*F)):=by rw [HK1.out];exact z3
 clear hA HK1 hs2;refine zw (fun w'=>w'.cell? ⟨b,1,none⟩=some (.int .u64 K1.cycle)∧w'.cell? ⟨w2.heap.size,0,none⟩=some (.int .i64 op)∧w'.cell? ⟨w2.heap.size,1,none⟩=some (.int .i64 a)∧w'.cell? ⟨w2.heap.size,2,none⟩=some (.int .i64 b')∧w'.cell? ⟨w2.heap.size,3,none⟩=some (.int .i64 c')∧w'.cell? ⟨w2.heap.size,4,none⟩=some (.int .i64 d)∧w'.cell? ⟨w2.heap.size,5,none⟩=some (.int .u32 k)) 12 [(0,0),(1,0),(2,0),(3,0),(4,1),(5,1),(6,2),(7,0),(8,0),(9,0),(10,0),(11,0),(12,2)] (by kernel_rfl) (by kernel_rfl) (fun _ _ _ _ h=>h) ⟨z4,z4,z4,z4,z4,z4,z4⟩ ?_
 iterate 6 (first | refine zt1 ?_ | refine zt3 ?_ | refine zt0 ?_ | refine zt2 ?_)
 refine zpN rfl (by rfl) (fun K hK=>?_);go_wp2_with fail;refine (hC.out _ _ own).mono ?_;rintro en w3 ⟨rfl,hs3⟩;clear hsx;go_wp2_with fail
 (first | refine ⟨fun _=>⟨z4,z4,z4,z4,z4,z4,z4⟩,?_⟩ | refine ⟨fun h=>absurd rfl h,?_⟩ | skip)
 iterate 5 (first | refine zt1 ?_ | refine zt3 ?_ | refine zt0 ?_ | refine zt2 ?_)
 refine zpN rfl (by rfl) (fun K hK=>?_);go_wp2_with fail
 (first | refine ⟨fun _=>⟨z4,z4,z4,z4,z4,z4,z4⟩,?_⟩ | refine ⟨fun h=>absurd rfl h,?_⟩ | skip)
 refine z0b ?_;go_wp2_with fail;refine (hD.out _ _ own).mono ?_;rintro en w4 ⟨rfl,hs4⟩;go_wp2_with fail
 go_end0
 exact ⟨rfl,z3⟩
theorem z7X (b:Nat) (x:Fx) (c:Cf) (K:Kn) (h:Inv c K) (t:Nat) (hf:z0h K.R=some t) (hr:¬ (t:Int)=K.run) (K1:Kn) (hK1:K1=((K.tell c 5 t K.run 0).cost 10).wRun t) (hin:(K1.T t).at_<(tcg c t).code.length) (hop:(K1.ins c t).op≤20) (hr0:¬ (doI (K1.ins c t) ((K1.paid c t).cx t)).1=0) (value:Int) (hvl:zG value) (w0 w:World) (hT:Tab w0) (F:HP) (hs:Sat w0 w (knP b x c K*F)) (hl:K.told.length≤99000) :
  Calls Tryz.prog 79 #[.pointer (some ⟨b,0,none⟩),.int .u32 value] w (zp w0 (.tuple #[]) (knP b x c (K1.go c t value)*F)):=by
 have cf:=h.cf;have hnt:=cf.nt;obtain ⟨lv,hlv⟩:=z0q hf;obtain ⟨ht,hst⟩:=h.rdy lv t hlv;have hF:=hid (fun w G hs=>z1G b x c K w0 w G hs t hf hT);have hrun:zG K.run:=by rcases h.run with e | e<;>exact ⟨by omega,by omega⟩
 have h1:Inv c K1:=by
  rw [hK1];exact { zU (zl h 5 t K.run 0) 10 with run:=.inr ⟨by show (0:Int)≤t;omega,by show (t:Int)<_;omega⟩ }
 have hst1:(K1.T t).st=1:=by rw [hK1];show ((Kn.tell _ _ _ _ _ _).T t).st=1;rw [z01];exact hst
 have hl1:K1.told.length≤99001:=by rw [hK1];have:=zW (c:=c) K 5 t K.run 0;show (K.tell c 5 t K.run 0).told.length≤_;omega
 have hA:=hid (fun (kI:Int) (hk:kI=5) (w:World) (G:HP) (hs:Sat w0 w (knP b x c K*G))=>zN b x c K 5 kI hk t K.run 0 w0 w G hs cf (by decide) ⟨by omega,by omega⟩ hrun ⟨by decide,by decide⟩ (by omega));have er:((t:Int)==K.run)=false:=by simp [hr]
 obtain ⟨y1,hy1⟩:∃ y1,y1=((K.tell c 5 t K.run 0).cycle+10)%18446744073709551616:=⟨_,rfl⟩;have v1:IntKind.u64.wrap ((K.tell c 5 t K.run 0).cycle+10)=y1:=by rw [IntKind.wrap_u64,hy1]
 have v2:((K.tell c 5 t K.run 0).cycle+10)%18446744073709551616=y1:=hy1.symm;have HK1:Hid (K1=((K.tell c 5 t K.run 0).wCycle y1).wRun t):=by unfold Hid;rw [hK1,hy1];rfl
 have hKT:K1.T t=K.T t:=by rw [hK1];show (Kn.tell _ _ _ _ _ _).T t=K.T t;rw [z01]
 clear hK1 hr hrun hy1;have hi:=z0k cf ht (h1.T t ht).at_.1;have hcz:=z0s hi;have hcl:=(cf.t t ht).2.2.2.2.2;obtain ⟨n,hat⟩:=Int.eq_ofNat_of_zero_le (h1.T t ht).at_.1;have hn300:n≤300:=by have:=(h1.T t ht).at_.2;omega
 have hcyc:=h1.cyc;have hat0:(K.T t).at_=(n:Int):=by rw [← hKT];exact hat
 obtain ⟨z,hz⟩:∃ z,z=zT (K1.ins c t):=⟨_,rfl⟩;obtain ⟨y2,hy2⟩:∃ y2,y2=(K1.cycle+z)%18446744073709551616:=⟨_,rfl⟩;have hp:K1.paid c t=K1.wCycle y2:=by rw [hy2,hz];rfl
 have hzr:1≤z∧z≤1000:=by rw [hz];exact hcz
 have u1:IntKind.u64.wrap z=z:=by rw [IntKind.wrap_u64];omega
 have u2:IntKind.u64.wrap (K1.cycle+z)=y2:=by rw [IntKind.wrap_u64,hy2]
 have u3:(K1.cycle+z)%18446744073709551616=y2:=hy2.symm;have u4:IntKind.i64.wrap ((n:Int)+1)=(n:Int)+1:=by rw [IntKind.wrap_i64];omega
 have hC:=hid (fun (w:World) (G:HP) (hs:Sat w0 w (knP b x c K1*G))=>z1g (K1.ins c t) z hz.symm hi.form hi.k w0 w _ hs);haveI:Lt t c.ts.length:=⟨ht⟩;have a1:=x.ta.ad_pos (show 0<c.ts.length by omega);have a2:=x.c.ct.ad_pos (show 0<c.ts.length by omega);have i1:(t:Int)<(c.ts.length:Int):=by omega
 have d1:decide (t<c.ts.length)=true:=decide_eq_true ht;have hnl:n<(tcg c t).code.length:=by rw [hat] at hin;omega
 haveI:Lt n (tcg c t).code.length:=⟨hnl⟩;have a3:=(x.c.tv t).ad_pos (show 0<(tcg c t).code.length by omega);have i2:(n:Int)<((tcg c t).code.length:Int):=by omega
 have d2:decide (n<(tcg c t).code.length)=true:=decide_eq_true hnl;have hie:K1.ins c t=zM (tcg c t).code n:=by unfold Kn.ins z0j;rw [if_pos hin,hat]
 have hpl:=z4G h1 ht hst1 hop;have hx:=hid (zja (value:=value) hop hr0);have hD:=hid (fun w G hs=>zmW b x c (K1.paid c t) t (zU h1 _) ht (K1.ins c t) hi hop w0 w G hs);have hsm:=z3x (K1.ins c t) ((K1.paid c t).cx t);obtain ⟨r,hrr⟩:∃ r,r=doI (K1.ins c t) ((K1.paid c t).cx t):=⟨_,rfl⟩;rw [← hrr] at hx hD hr0 hsm hpl;have z1:(r.1 != 0)=true:=by simp [hr0]
 have h4:=zl hpl.1 21 t r.1 0;have hrd:=z2B h4 ht (by rw [z01];exact hpl.2);have h5:=zbT h4 hrd (status:=8) (.inr rfl);have l5:=zW (c:=c) ((K1.paid c t).putCx t r.2) 21 t r.1 0;have l6:((K1.paid c t).putCx t r.2).told=K1.told:=(z0Z (K:=K1.paid c t) (who:=t) r.2).1;rw [l6] at l5;have hB:=hid (fun (kI:Int) (hk:kI=21) (w:World) (G:HP) (hs:Sat w0 w (knP b x c ((K1.paid c t).putCx t r.2)*G))=>zN b x c _ 21 kI hk t r.1 0 w0 w G hs cf (by decide) ⟨by omega,by omega⟩ ⟨by omega,by omega⟩ ⟨by decide,by decide⟩ (by rw [l6];omega));have hG:=hid (fun (w:World) (G:HP) (hs:Sat w0 w (knP b x c (((K1.paid c t).putCx t r.2).tell c 21 t r.1 0)*G))=>z8m b x c _ t 8 h5 ht w0 w G hs (by omega));rw [hp] at hx hD hB hG;rw [hie] at  hD hC hop;rw [hx.out];obtain ⟨j,hj⟩:∃ j,j=zM (tcg c t).code n:=⟨_,rfl⟩;rw [← hj] at hD hC hop;have hin':zM (tcg c t).code n=j:=hj.symm;obtain ⟨op,a,b',c',d,k⟩:=j;have f1:decide (op≤20)=true:=decide_eq_true hop;clear h h1 hi hx hf hlv hst hst1 hKT hcz hcl hcyc hz hy2 hp hzr hie hin hvl hT hl hl1 cf hpl hr0 hj hop hsm hrr h4 hrd h5 l5 l6
 go_enter Tryz.func79,Tryz.ntmps79
 go_wp2_with fail;refine (hF.out _ _ own).mono ?_;rintro en w1 ⟨rfl,hs1⟩;clear hs;go_wp2_with fail;refine (hA.out _ rfl _ _ z6).mono ?_;rintro en w2 ⟨rfl,hs2⟩;clear hs1;go_wp2_with fail;refine z9 (w0:=w0) ?_;intro wx hsx;have hsx:Sat w0 wx (pts w2.heap.size 0 [.int .i64 op,.int .i64 a,.int .i64 b',.int .i64 c',.int .i64 d,.int .u32 k]*(knP b x c K1*F)):=by rw [HK1.out];exact z3
 clear hA HK1 hs2;refine zw (fun w'=>w'.cell? ⟨b,1,none⟩=some (.int .u64 K1.cycle)∧w'.cell? ⟨w2.heap.size,0,none⟩=some (.int .i64 op)∧w'.cell? ⟨w2.heap.size,1,none⟩=some (.int .i64 a)∧w'.cell? ⟨w2.heap.size,2,none⟩=some (.int .i64 b')∧w'.cell? ⟨w2.heap.size,3,none⟩=some (.int .i64 c')∧w'.cell? ⟨w2.heap.size,4,none⟩=some (.int .i64 d)∧w'.cell? ⟨w2.heap.size,5,none⟩=some (.int .u32 k)) 12 [(0,0),(1,0),(2,0),(3,0),(4,1),(5,1),(6,2),(7,0),(8,0),(9,0),(10,0),(11,0),(12,2)] (by kernel_rfl) (by kernel_rfl) (fun _ _ _ _ h=>h) ⟨z4,z4,z4,z4,z4,z4,z4⟩ ?_
 iterate 6 (first | refine zt1 ?_ | refine zt3 ?_ | refine zt0 ?_ | refine zt2 ?_)
 refine zpN rfl (by rfl) (fun K hK=>?_);go_wp2_with fail;refine (hC.out _ _ own).mono ?_;rintro en w3 ⟨rfl,hs3⟩;clear hsx;go_wp2_with fail
 (first | refine ⟨fun _=>⟨z4,z4,z4,z4,z4,z4,z4⟩,?_⟩ | refine ⟨fun h=>absurd rfl h,?_⟩ | skip)
 iterate 5 (first | refine zt1 ?_ | refine zt3 ?_ | refine zt0 ?_ | refine zt2 ?_)
 refine zpN rfl (by rfl) (fun K hK=>?_);go_wp2_with fail
 (first | refine ⟨fun _=>⟨z4,z4,z4,z4,z4,z4,z4⟩,?_⟩ | refine ⟨fun h=>absurd rfl h,?_⟩ | skip)
 refine z0b ?_;go_wp2_with fail;refine (hD.out _ _ own).mono ?_;rintro en w4 ⟨rfl,hs4⟩;go_wp2_with fail;refine (hB.out _ rfl _ _ own).mono ?_;rintro en w5 ⟨rfl,hs5⟩;go_wp2_with fail;refine (hG.out _ _ own).mono ?_;rintro en w6 ⟨rfl,hs6⟩;go_wp2_with fail
 go_end0
 exact ⟨rfl,z3⟩
theorem z75 (b:Nat) (x:Fx) (c:Cf) (K:Kn) (h:Inv c K) (t:Nat) (hf:z0h K.R=some t) (hr:¬ (t:Int)=K.run) (K1:Kn) (hK1:K1=((K.tell c 5 t K.run 0).cost 10).wRun t) (hin:(K1.T t).at_<(tcg c t).code.length) (hop:(K1.ins c t).op=37) (value:Int) (hvl:zG value) (w0 w:World) (hT:Tab w0) (F:HP) (hs:Sat w0 w (knP b x c K*F)) (hl:K.told.length≤99000) :
  Calls Tryz.prog 79 #[.pointer (some ⟨b,0,none⟩),.int .u32 value] w (zp w0 (.tuple #[]) (knP b x c (K1.go c t value)*F)):=by
 have cf:=h.cf;have hnt:=cf.nt;obtain ⟨lv,hlv⟩:=z0q hf;obtain ⟨ht,hst⟩:=h.rdy lv t hlv;have hF:=hid (fun w G hs=>z1G b x c K w0 w G hs t hf hT);have hrun:zG K.run:=by rcases h.run with e | e<;>exact ⟨by omega,by omega⟩
 have h1:Inv c K1:=by
  rw [hK1];exact { zU (zl h 5 t K.run 0) 10 with run:=.inr ⟨by show (0:Int)≤t;omega,by show (t:Int)<_;omega⟩ }
 have hst1:(K1.T t).st=1:=by rw [hK1];show ((Kn.tell _ _ _ _ _ _).T t).st=1;rw [z01];exact hst
 have hl1:K1.told.length≤99001:=by rw [hK1];have:=zW (c:=c) K 5 t K.run 0;show (K.tell c 5 t K.run 0).told.length≤_;omega
 have hA:=hid (fun (kI:Int) (hk:kI=5) (w:World) (G:HP) (hs:Sat w0 w (knP b x c K*G))=>zN b x c K 5 kI hk t K.run 0 w0 w G hs cf (by decide) ⟨by omega,by omega⟩ hrun ⟨by decide,by decide⟩ (by omega));have er:((t:Int)==K.run)=false:=by simp [hr]
 obtain ⟨y1,hy1⟩:∃ y1,y1=((K.tell c 5 t K.run 0).cycle+10)%18446744073709551616:=⟨_,rfl⟩;have v1:IntKind.u64.wrap ((K.tell c 5 t K.run 0).cycle+10)=y1:=by rw [IntKind.wrap_u64,hy1]
 have v2:((K.tell c 5 t K.run 0).cycle+10)%18446744073709551616=y1:=hy1.symm;have HK1:Hid (K1=((K.tell c 5 t K.run 0).wCycle y1).wRun t):=by unfold Hid;rw [hK1,hy1];rfl
 have hKT:K1.T t=K.T t:=by rw [hK1];show (Kn.tell _ _ _ _ _ _).T t=K.T t;rw [z01]
 clear hK1 hr hrun hy1;have hi:=z0k cf ht (h1.T t ht).at_.1;have hcz:=z0s hi;have hcl:=(cf.t t ht).2.2.2.2.2;obtain ⟨n,hat⟩:=Int.eq_ofNat_of_zero_le (h1.T t ht).at_.1;have hn300:n≤300:=by have:=(h1.T t ht).at_.2;omega
 have hcyc:=h1.cyc;have hat0:(K.T t).at_=(n:Int):=by rw [← hKT];exact hat
 obtain ⟨z,hz⟩:∃ z,z=zT (K1.ins c t):=⟨_,rfl⟩;obtain ⟨y2,hy2⟩:∃ y2,y2=(K1.cycle+z)%18446744073709551616:=⟨_,rfl⟩;have hp:K1.paid c t=K1.wCycle y2:=by rw [hy2,hz];rfl
 have hzr:1≤z∧z≤1000:=by rw [hz];exact hcz
 have u1:IntKind.u64.wrap z=z:=by rw [IntKind.wrap_u64];omega
 have u2:IntKind.u64.wrap (K1.cycle+z)=y2:=by rw [IntKind.wrap_u64,hy2]
 have u3:(K1.cycle+z)%18446744073709551616=y2:=hy2.symm;have u4:IntKind.i64.wrap ((n:Int)+1)=(n:Int)+1:=by rw [IntKind.wrap_i64];omega
 have hC:=hid (fun (w:World) (G:HP) (hs:Sat w0 w (knP b x c K1*G))=>z1g (K1.ins c t) z hz.symm hi.form hi.k w0 w _ hs);haveI:Lt t c.ts.length:=⟨ht⟩;have a1:=x.ta.ad_pos (show 0<c.ts.length by omega);have a2:=x.c.ct.ad_pos (show 0<c.ts.length by omega);have i1:(t:Int)<(c.ts.length:Int):=by omega
 have d1:decide (t<c.ts.length)=true:=decide_eq_true ht;have hnl:n<(tcg c t).code.length:=by rw [hat] at hin;omega
 haveI:Lt n (tcg c t).code.length:=⟨hnl⟩;have a3:=(x.c.tv t).ad_pos (show 0<(tcg c t).code.length by omega);have i2:(n:Int)<((tcg c t).code.length:Int):=by omega
 have d2:decide (n<(tcg c t).code.length)=true:=decide_eq_true hnl;have hie:K1.ins c t=zM (tcg c t).code n:=by unfold Kn.ins z0j;rw [if_pos hin,hat]
 have hx:=hid (zcP (value:=value) hop);have h5:=z6R h1 ht hst1;have l5:=zW (c:=c) ((K1.paid c t).fwd t) 22 t 0 0;have l6:((K1.paid c t).fwd t).told=K1.told:=rfl;rw [l6] at l5;have hB:=hid (fun (kI:Int) (hk:kI=22) (w:World) (G:HP) (hs:Sat w0 w (knP b x c ((K1.paid c t).fwd t)*G))=>zN b x c _ 22 kI hk t 0 0 w0 w G hs cf (by decide) ⟨by omega,by omega⟩ ⟨by decide,by decide⟩ ⟨by decide,by decide⟩ (by rw [l6];omega));have hG:=hid (fun (w:World) (G:HP) (hs:Sat w0 w (knP b x c (((K1.paid c t).fwd t).tell c 22 t 0 0)*G))=>z8m b x c _ t 7 h5 ht w0 w G hs (by omega));have hfw:(K1.paid c t).fwd t=(K1.wCycle y2).wAt t ((n:Int)+1):=by rw [← hat,hy2,hz];rfl
 rw [hfw] at hx hB hG;rw [hie] at hC hop;rw [hx.out];obtain ⟨j,hj⟩:∃ j,j=zM (tcg c t).code n:=⟨_,rfl⟩;rw [← hj] at hC hop;have hin':zM (tcg c t).code n=j:=hj.symm;obtain ⟨op,a,b',c',d,k⟩:=j;have ho:op=37:=hop;subst ho;clear h h1 hi hx hf hlv hst hst1 hKT hcz hcl hcyc hz hy2 hp hzr hie hin hvl hT hl hl1 cf h5 l5 l6 hfw hj hop
 go_enter Tryz.func79,Tryz.ntmps79
 go_wp2_with fail;refine (hF.out _ _ own).mono ?_;rintro en w1 ⟨rfl,hs1⟩;clear hs;go_wp2_with fail;refine (hA.out _ rfl _ _ z6).mono ?_;rintro en w2 ⟨rfl,hs2⟩;clear hs1;go_wp2_with fail;refine z9 (w0:=w0) ?_;intro wx hsx;have hsx:Sat w0 wx (pts w2.heap.size 0 [.int .i64 37,.int .i64 a,.int .i64 b',.int .i64 c',.int .i64 d,.int .u32 k]*(knP b x c K1*F)):=by rw [HK1.out];exact z3
 clear hA HK1 hs2;refine zw (fun w'=>w'.cell? ⟨b,1,none⟩=some (.int .u64 K1.cycle)∧w'.cell? ⟨w2.heap.size,0,none⟩=some (.int .i64 37)∧w'.cell? ⟨w2.heap.size,1,none⟩=some (.int .i64 a)∧w'.cell? ⟨w2.heap.size,2,none⟩=some (.int .i64 b')∧w'.cell? ⟨w2.heap.size,3,none⟩=some (.int .i64 c')∧w'.cell? ⟨w2.heap.size,4,none⟩=some (.int .i64 d)∧w'.cell? ⟨w2.heap.size,5,none⟩=some (.int .u32 k)) 12 [(0,0),(1,0),(2,0),(3,0),(4,1),(5,1),(6,2),(7,0),(8,0),(9,0),(10,0),(11,0),(12,2)] (by kernel_rfl) (by kernel_rfl) (fun _ _ _ _ h=>h) ⟨z4,z4,z4,z4,z4,z4,z4⟩ ?_
 iterate 6 (first | refine zt1 ?_ | refine zt3 ?_ | refine zt0 ?_ | refine zt2 ?_)
 refine zpN rfl (by rfl) (fun K hK=>?_);go_wp2_with fail;refine (hC.out _ _ own).mono ?_;rintro en w3 ⟨rfl,hs3⟩;clear hsx;go_wp2_with fail
 (first | refine ⟨fun _=>⟨z4,z4,z4,z4,z4,z4,z4⟩,?_⟩ | refine ⟨fun h=>absurd rfl h,?_⟩ | skip)
 iterate 5 (first | refine zt1 ?_ | refine zt3 ?_ | refine zt0 ?_ | refine zt2 ?_)
 refine zpN rfl (by rfl) (fun K hK=>?_);go_wp2_with fail
 (first | refine ⟨fun _=>⟨z4,z4,z4,z4,z4,z4,z4⟩,?_⟩ | refine ⟨fun h=>absurd rfl h,?_⟩ | skip)
 refine z0b ?_;go_wp2_with fail;refine (hB.out _ rfl _ _ own).mono ?_;rintro en w4 ⟨rfl,hs4⟩;go_wp2_with fail;refine (hG.out _ _ own).mono ?_;rintro en w5 ⟨rfl,hs5⟩;go_wp2_with fail
 go_end0
 exact ⟨rfl,z3⟩
theorem z7Z (b:Nat) (x:Fx) (c:Cf) (K:Kn) (h:Inv c K) (t:Nat) (hf:z0h K.R=some t) (hr:¬ (t:Int)=K.run) (K1:Kn) (hK1:K1=((K.tell c 5 t K.run 0).cost 10).wRun t) (hin:(K1.T t).at_<(tcg c t).code.length) (hop:¬ (K1.ins c t).op≤20) (hop2:¬ (K1.ins c t).op=37) (value:Int) (hvl:zG value) (w0 w:World) (hT:Tab w0) (F:HP) (hs:Sat w0 w (knP b x c K*F)) (hl:K.told.length≤99000) :
  Calls Tryz.prog 79 #[.pointer (some ⟨b,0,none⟩),.int .u32 value] w (zp w0 (.tuple #[]) (knP b x c (K1.go c t value)*F)):=by
 have cf:=h.cf;have hnt:=cf.nt;obtain ⟨lv,hlv⟩:=z0q hf;obtain ⟨ht,hst⟩:=h.rdy lv t hlv;have hF:=hid (fun w G hs=>z1G b x c K w0 w G hs t hf hT);have hrun:zG K.run:=by rcases h.run with e | e<;>exact ⟨by omega,by omega⟩
 have h1:Inv c K1:=by
  rw [hK1];exact { zU (zl h 5 t K.run 0) 10 with run:=.inr ⟨by show (0:Int)≤t;omega,by show (t:Int)<_;omega⟩ }
 have hst1:(K1.T t).st=1:=by rw [hK1];show ((Kn.tell _ _ _ _ _ _).T t).st=1;rw [z01];exact hst
 have hl1:K1.told.length≤99001:=by rw [hK1];have:=zW (c:=c) K 5 t K.run 0;show (K.tell c 5 t K.run 0).told.length≤_;omega
 have hA:=hid (fun (kI:Int) (hk:kI=5) (w:World) (G:HP) (hs:Sat w0 w (knP b x c K*G))=>zN b x c K 5 kI hk t K.run 0 w0 w G hs cf (by decide) ⟨by omega,by omega⟩ hrun ⟨by decide,by decide⟩ (by omega));have er:((t:Int)==K.run)=false:=by simp [hr]
 obtain ⟨y1,hy1⟩:∃ y1,y1=((K.tell c 5 t K.run 0).cycle+10)%18446744073709551616:=⟨_,rfl⟩;have v1:IntKind.u64.wrap ((K.tell c 5 t K.run 0).cycle+10)=y1:=by rw [IntKind.wrap_u64,hy1]
 have v2:((K.tell c 5 t K.run 0).cycle+10)%18446744073709551616=y1:=hy1.symm;have HK1:Hid (K1=((K.tell c 5 t K.run 0).wCycle y1).wRun t):=by unfold Hid;rw [hK1,hy1];rfl
 have hKT:K1.T t=K.T t:=by rw [hK1];show (Kn.tell _ _ _ _ _ _).T t=K.T t;rw [z01]
 clear hK1 hr hrun hy1;have hi:=z0k cf ht (h1.T t ht).at_.1;have hcz:=z0s hi;have hcl:=(cf.t t ht).2.2.2.2.2;obtain ⟨n,hat⟩:=Int.eq_ofNat_of_zero_le (h1.T t ht).at_.1;have hn300:n≤300:=by have:=(h1.T t ht).at_.2;omega
 have hcyc:=h1.cyc;have hat0:(K.T t).at_=(n:Int):=by rw [← hKT];exact hat
 obtain ⟨z,hz⟩:∃ z,z=zT (K1.ins c t):=⟨_,rfl⟩;obtain ⟨y2,hy2⟩:∃ y2,y2=(K1.cycle+z)%18446744073709551616:=⟨_,rfl⟩;have hp:K1.paid c t=K1.wCycle y2:=by rw [hy2,hz];rfl
 have hzr:1≤z∧z≤1000:=by rw [hz];exact hcz
 have u1:IntKind.u64.wrap z=z:=by rw [IntKind.wrap_u64];omega
 have u2:IntKind.u64.wrap (K1.cycle+z)=y2:=by rw [IntKind.wrap_u64,hy2]
 have u3:(K1.cycle+z)%18446744073709551616=y2:=hy2.symm;have u4:IntKind.i64.wrap ((n:Int)+1)=(n:Int)+1:=by rw [IntKind.wrap_i64];omega
 have hC:=hid (fun (w:World) (G:HP) (hs:Sat w0 w (knP b x c K1*G))=>z1g (K1.ins c t) z hz.symm hi.form hi.k w0 w _ hs);haveI:Lt t c.ts.length:=⟨ht⟩;have a1:=x.ta.ad_pos (show 0<c.ts.length by omega);have a2:=x.c.ct.ad_pos (show 0<c.ts.length by omega);have i1:(t:Int)<(c.ts.length:Int):=by omega
 have d1:decide (t<c.ts.length)=true:=decide_eq_true ht;have hnl:n<(tcg c t).code.length:=by rw [hat] at hin;omega
 haveI:Lt n (tcg c t).code.length:=⟨hnl⟩;have a3:=(x.c.tv t).ad_pos (show 0<(tcg c t).code.length by omega);have i2:(n:Int)<((tcg c t).code.length:Int):=by omega
 have d2:decide (n<(tcg c t).code.length)=true:=decide_eq_true hnl;have hie:K1.ins c t=zM (tcg c t).code n:=by unfold Kn.ins z0j;rw [if_pos hin,hat]
 have hx:=hid (zjb (value:=value) hop hop2);obtain ⟨h4,h5⟩:=zbx h1 ht hst1 hop2;have h38:=zg3 h1 ht;have h38':=hi.op;have hS:=hid (fun (w:World) (G:HP) (hs:Sat w0 w (knP b x c ((K1.paid c t).fwd t)*G))=>z7d b x c _ t x.ta.b (x.ta.o+t*15+5) ⟨.inl ⟨by omega,ht,rfl,rfl⟩⟩ (K1.ins c t) hi h4 ht h5 ⟨by omega,by have:(K1.ins c t).op≤38:=h38'.2;omega⟩ value hvl w0 w G hs (by show K1.told.length≤99800;omega));have hfw:(K1.paid c t).fwd t=(K1.wCycle y2).wAt t ((n:Int)+1):=by rw [← hat,hy2,hz];rfl
 rw [hfw] at hx hS;rw [hie] at hx hS hC hop hop2;rw [hx.out];obtain ⟨j,hj⟩:∃ j,j=zM (tcg c t).code n:=⟨_,rfl⟩;rw [← hj] at hx hS hC hop hop2 ⊢;have hin':zM (tcg c t).code n=j:=hj.symm;obtain ⟨op,a,b',c',d,k⟩:=j;have f1:decide (op≤20)=false:=decide_eq_false hop;have f2:(op==37)=false:=by simpa using hop2
 clear h h1 hi hx hf hlv hst hst1 hKT hcz hcl hcyc hz hy2 hp hzr hie hin hvl hT hl hl1 cf h4 h5 h38 h38' hfw hj hop hop2
 go_enter Tryz.func79,Tryz.ntmps79
 go_wp2_with fail;refine (hF.out _ _ own).mono ?_;rintro en w1 ⟨rfl,hs1⟩;clear hs;go_wp2_with fail;refine (hA.out _ rfl _ _ z6).mono ?_;rintro en w2 ⟨rfl,hs2⟩;clear hs1;go_wp2_with fail;refine z9 (w0:=w0) ?_;intro wx hsx;have hsx:Sat w0 wx (pts w2.heap.size 0 [.int .i64 op,.int .i64 a,.int .i64 b',.int .i64 c',.int .i64 d,.int .u32 k]*(knP b x c K1*F)):=by rw [HK1.out];exact z3
 clear hA HK1 hs2;refine zw (fun w'=>w'.cell? ⟨b,1,none⟩=some (.int .u64 K1.cycle)∧w'.cell? ⟨w2.heap.size,0,none⟩=some (.int .i64 op)∧w'.cell? ⟨w2.heap.size,1,none⟩=some (.int .i64 a)∧w'.cell? ⟨w2.heap.size,2,none⟩=some (.int .i64 b')∧w'.cell? ⟨w2.heap.size,3,none⟩=some (.int .i64 c')∧w'.cell? ⟨w2.heap.size,4,none⟩=some (.int .i64 d)∧w'.cell? ⟨w2.heap.size,5,none⟩=some (.int .u32 k)) 12 [(0,0),(1,0),(2,0),(3,0),(4,1),(5,1),(6,2),(7,0),(8,0),(9,0),(10,0),(11,0),(12,2)] (by kernel_rfl) (by kernel_rfl) (fun _ _ _ _ h=>h) ⟨z4,z4,z4,z4,z4,z4,z4⟩ ?_
 iterate 6 (first | refine zt1 ?_ | refine zt3 ?_ | refine zt0 ?_ | refine zt2 ?_)
 refine zpN rfl (by rfl) (fun K hK=>?_);go_wp2_with fail;refine (hC.out _ _ own).mono ?_;rintro en w3 ⟨rfl,hs3⟩;clear hsx;go_wp2_with fail
 (first | refine ⟨fun _=>⟨z4,z4,z4,z4,z4,z4,z4⟩,?_⟩ | refine ⟨fun h=>absurd rfl h,?_⟩ | skip)
 iterate 5 (first | refine zt1 ?_ | refine zt3 ?_ | refine zt0 ?_ | refine zt2 ?_)
 refine zpN rfl (by rfl) (fun K hK=>?_);go_wp2_with fail
 (first | refine ⟨fun _=>⟨z4,z4,z4,z4,z4,z4,z4⟩,?_⟩ | refine ⟨fun h=>absurd rfl h,?_⟩ | skip)
 refine z0b ?_;go_wp2_with fail;refine (hS.out _ _ own).mono ?_;rintro en w4 ⟨rfl,hs4⟩;go_wp2_with fail
 go_end0
 exact ⟨rfl,z3⟩
theorem z7Y (b:Nat) (x:Fx) (c:Cf) (K:Kn) (h:Inv c K) (t:Nat) (hf:z0h K.R=some t) (hr:¬ (t:Int)=K.run) (K1:Kn) (hK1:K1=((K.tell c 5 t K.run 0).cost 10).wRun t) (hin:¬ (K1.T t).at_<(tcg c t).code.length) (value:Int) (hvl:zG value) (w0 w:World) (hT:Tab w0) (F:HP) (hs:Sat w0 w (knP b x c K*F)) (hl:K.told.length≤99000) :
  Calls Tryz.prog 79 #[.pointer (some ⟨b,0,none⟩),.int .u32 value] w (zp w0 (.tuple #[]) (knP b x c (K1.go c t value)*F)):=by
 have cf:=h.cf;have hnt:=cf.nt;obtain ⟨lv,hlv⟩:=z0q hf;obtain ⟨ht,hst⟩:=h.rdy lv t hlv;have hF:=hid (fun w G hs=>z1G b x c K w0 w G hs t hf hT);have hrun:zG K.run:=by rcases h.run with e | e<;>exact ⟨by omega,by omega⟩
 have h1:Inv c K1:=by
  rw [hK1];exact { zU (zl h 5 t K.run 0) 10 with run:=.inr ⟨by show (0:Int)≤t;omega,by show (t:Int)<_;omega⟩ }
 have hst1:(K1.T t).st=1:=by rw [hK1];show ((Kn.tell _ _ _ _ _ _).T t).st=1;rw [z01];exact hst
 have hl1:K1.told.length≤99001:=by rw [hK1];have:=zW (c:=c) K 5 t K.run 0;show (K.tell c 5 t K.run 0).told.length≤_;omega
 have hA:=hid (fun (kI:Int) (hk:kI=5) (w:World) (G:HP) (hs:Sat w0 w (knP b x c K*G))=>zN b x c K 5 kI hk t K.run 0 w0 w G hs cf (by decide) ⟨by omega,by omega⟩ hrun ⟨by decide,by decide⟩ (by omega));have er:((t:Int)==K.run)=false:=by simp [hr]
 obtain ⟨y1,hy1⟩:∃ y1,y1=((K.tell c 5 t K.run 0).cycle+10)%18446744073709551616:=⟨_,rfl⟩;have v1:IntKind.u64.wrap ((K.tell c 5 t K.run 0).cycle+10)=y1:=by rw [IntKind.wrap_u64,hy1]
 have v2:((K.tell c 5 t K.run 0).cycle+10)%18446744073709551616=y1:=hy1.symm;have HK1:Hid (K1=((K.tell c 5 t K.run 0).wCycle y1).wRun t):=by unfold Hid;rw [hK1,hy1];rfl
 have hKT:K1.T t=K.T t:=by rw [hK1];show (Kn.tell _ _ _ _ _ _).T t=K.T t;rw [z01]
 clear hK1 hr hrun hy1;have hi:=z0k cf ht (h1.T t ht).at_.1;have hcz:=z0s hi;have hcl:=(cf.t t ht).2.2.2.2.2;obtain ⟨n,hat⟩:=Int.eq_ofNat_of_zero_le (h1.T t ht).at_.1;have hn300:n≤300:=by have:=(h1.T t ht).at_.2;omega
 have hcyc:=h1.cyc;have hat0:(K.T t).at_=(n:Int):=by rw [← hKT];exact hat
 obtain ⟨z,hz⟩:∃ z,z=zT (K1.ins c t):=⟨_,rfl⟩;obtain ⟨y2,hy2⟩:∃ y2,y2=(K1.cycle+z)%18446744073709551616:=⟨_,rfl⟩;have hp:K1.paid c t=K1.wCycle y2:=by rw [hy2,hz];rfl
 have hzr:1≤z∧z≤1000:=by rw [hz];exact hcz
 have u1:IntKind.u64.wrap z=z:=by rw [IntKind.wrap_u64];omega
 have u2:IntKind.u64.wrap (K1.cycle+z)=y2:=by rw [IntKind.wrap_u64,hy2]
 have u3:(K1.cycle+z)%18446744073709551616=y2:=hy2.symm;have u4:IntKind.i64.wrap ((n:Int)+1)=(n:Int)+1:=by rw [IntKind.wrap_i64];omega
 have hC:=hid (fun (w:World) (G:HP) (hs:Sat w0 w (knP b x c K1*G))=>z1g (K1.ins c t) z hz.symm hi.form hi.k w0 w _ hs);haveI:Lt t c.ts.length:=⟨ht⟩;have a1:=x.ta.ad_pos (show 0<c.ts.length by omega);have a2:=x.c.ct.ad_pos (show 0<c.ts.length by omega);have i1:(t:Int)<(c.ts.length:Int):=by omega
 have d1:decide (t<c.ts.length)=true:=decide_eq_true ht;have d2:decide (n<(tcg c t).code.length)=false:=by rw [hat] at hin;simp;omega
 have hie:K1.ins c t=⟨37,0,0,0,0,0⟩:=by unfold Kn.ins z0j;rw [if_neg hin]
 have hop:(K1.ins c t).op=37:=by rw [hie]
 have hx:=hid (zcP (value:=value) hop);have h5:=z6R h1 ht hst1;have l5:=zW (c:=c) ((K1.paid c t).fwd t) 22 t 0 0;have l6:((K1.paid c t).fwd t).told=K1.told:=rfl;rw [l6] at l5;have hB:=hid (fun (kI:Int) (hk:kI=22) (w:World) (G:HP) (hs:Sat w0 w (knP b x c ((K1.paid c t).fwd t)*G))=>zN b x c _ 22 kI hk t 0 0 w0 w G hs cf (by decide) ⟨by omega,by omega⟩ ⟨by decide,by decide⟩ ⟨by decide,by decide⟩ (by rw [l6];omega));have hG:=hid (fun (w:World) (G:HP) (hs:Sat w0 w (knP b x c (((K1.paid c t).fwd t).tell c 22 t 0 0)*G))=>z8m b x c _ t 7 h5 ht w0 w G hs (by omega));have hfw:(K1.paid c t).fwd t=(K1.wCycle y2).wAt t ((n:Int)+1):=by rw [← hat,hy2,hz];rfl
 rw [hfw] at hx hB hG;rw [hie] at hC hop;rw [hx.out];clear h h1 hi hx hf hlv hst hst1 hKT hcz hcl hcyc hz hy2 hp hzr hie hin hvl hT hl hl1 cf h5 l5 l6 hfw hop
 go_enter Tryz.func79,Tryz.ntmps79
 go_wp2_with fail;refine (hF.out _ _ own).mono ?_;rintro en w1 ⟨rfl,hs1⟩;clear hs;go_wp2_with fail;refine (hA.out _ rfl _ _ z6).mono ?_;rintro en w2 ⟨rfl,hs2⟩;clear hs1;go_wp2_with fail;refine z9 (w0:=w0) ?_;intro wx hsx;have hsx:Sat w0 wx (pts w2.heap.size 0 [.int .i64 37,.int .i64 0,.int .i64 0,.int .i64 0,.int .i64 0,.int .u32 0]*(knP b x c K1*F)):=by rw [HK1.out];exact z3
 clear hA HK1 hs2;refine zw (fun w'=>w'.cell? ⟨b,1,none⟩=some (.int .u64 K1.cycle)∧w'.cell? ⟨w2.heap.size,0,none⟩=some (.int .i64 37)∧w'.cell? ⟨w2.heap.size,1,none⟩=some (.int .i64 0)∧w'.cell? ⟨w2.heap.size,2,none⟩=some (.int .i64 0)∧w'.cell? ⟨w2.heap.size,3,none⟩=some (.int .i64 0)∧w'.cell? ⟨w2.heap.size,4,none⟩=some (.int .i64 0)∧w'.cell? ⟨w2.heap.size,5,none⟩=some (.int .u32 0)) 12 [(0,0),(1,0),(2,0),(3,0),(4,1),(5,1),(6,2),(7,0),(8,0),(9,0),(10,0),(11,0),(12,2)] (by kernel_rfl) (by kernel_rfl) (fun _ _ _ _ h=>h) ⟨z4,z4,z4,z4,z4,z4,z4⟩ ?_
 iterate 6 (first | refine zt1 ?_ | refine zt3 ?_ | refine zt0 ?_ | refine zt2 ?_)
 refine zpN rfl (by rfl) (fun K hK=>?_);go_wp2_with fail;refine (hC.out _ _ own).mono ?_;rintro en w3 ⟨rfl,hs3⟩;clear hsx;go_wp2_with fail
 (first | refine ⟨fun _=>⟨z4,z4,z4,z4,z4,z4,z4⟩,?_⟩ | refine ⟨fun h=>absurd rfl h,?_⟩ | skip)
 iterate 5 (first | refine zt1 ?_ | refine zt3 ?_ | refine zt0 ?_ | refine zt2 ?_)
 refine zpN rfl (by rfl) (fun K hK=>?_);go_wp2_with fail
 (first | refine ⟨fun _=>⟨z4,z4,z4,z4,z4,z4,z4⟩,?_⟩ | refine ⟨fun h=>absurd rfl h,?_⟩ | skip)
 refine z0b ?_;go_wp2_with fail;refine (hB.out _ rfl _ _ own).mono ?_;rintro en w4 ⟨rfl,hs4⟩;go_wp2_with fail;refine (hG.out _ _ own).mono ?_;rintro en w5 ⟨rfl,hs5⟩;go_wp2_with fail
 go_end0
 exact ⟨rfl,z3⟩
theorem zbC (b:Nat) (x:Fx) (c:Cf) (K:Kn) (h:Inv c K) (hf:z0h K.R=none) (hr:(255:Int)=K.run) (value:Int) (w0 w:World) (F:HP) (hs:Sat w0 w (knP b x c K*F)) :
  Calls Tryz.prog 79 #[.pointer (some ⟨b,0,none⟩),.int .u32 value] w (zp w0 (.tuple #[]) (knP b x c (K.cost 1)*F)):=by
 have hF:=hid (fun w G hs=>zfo b x c K w0 w G hs hf);have er:K.run=255:=hr.symm;obtain ⟨y2,hy2⟩:∃ y2,y2=(K.cycle+1)%18446744073709551616:=⟨_,rfl⟩;have u2:IntKind.u64.wrap (K.cycle+1)=y2:=by rw [IntKind.wrap_u64,hy2]
 have u3:(K.cycle+1)%18446744073709551616=y2:=hy2.symm;have hp:K.cost 1=K.wCycle y2:=by rw [hy2];rfl
 rw [hp];clear hp hy2 hr hf h
 go_enter Tryz.func79,Tryz.ntmps79
 go_wp2_with fail;refine (hF.out _ _ own).mono ?_;rintro en w1 ⟨rfl,hs1⟩;clear hs;go_wp2_with fail
 go_end0
 exact ⟨rfl,z3⟩
theorem zbD (b:Nat) (x:Fx) (c:Cf) (K:Kn) (h:Inv c K) (hf:z0h K.R=none) (hr:¬ (255:Int)=K.run) (value:Int) (w0 w:World) (F:HP) (hs:Sat w0 w (knP b x c K*F)) (hl:K.told.length≤99000) :
  Calls Tryz.prog 79 #[.pointer (some ⟨b,0,none⟩),.int .u32 value] w (zp w0 (.tuple #[]) (knP b x c ((((K.tell c 5 255 K.run 0).cost 10).wRun 255).cost 1)*F)):=by
 have cf:=h.cf;have hnt:=cf.nt;have hF:=hid (fun w G hs=>zfo b x c K w0 w G hs hf);have hrun:zG K.run:=by rcases h.run with e | e<;>exact ⟨by omega,by omega⟩
 have hA:=hid (fun (kI:Int) (hk:kI=5) (w:World) (G:HP) (hs:Sat w0 w (knP b x c K*G))=>zN b x c K 5 kI hk 255 K.run 0 w0 w G hs cf (by decide) ⟨by omega,by omega⟩ hrun ⟨by decide,by decide⟩ (by omega));have er:((255:Int)==K.run)=false:=by simp [hr]
 obtain ⟨y1,hy1⟩:∃ y1,y1=((K.tell c 5 255 K.run 0).cycle+10)%18446744073709551616:=⟨_,rfl⟩;have v1:IntKind.u64.wrap ((K.tell c 5 255 K.run 0).cycle+10)=y1:=by rw [IntKind.wrap_u64,hy1]
 have v2:((K.tell c 5 255 K.run 0).cycle+10)%18446744073709551616=y1:=hy1.symm;obtain ⟨y2,hy2⟩:∃ y2,y2=(y1+1)%18446744073709551616:=⟨_,rfl⟩;have u2:IntKind.u64.wrap (y1+1)=y2:=by rw [IntKind.wrap_u64,hy2]
 have u3:(y1+1)%18446744073709551616=y2:=hy2.symm;have hp:(((K.tell c 5 255 K.run 0).cost 10).wRun 255).cost 1=(((K.tell c 5 255 K.run 0).wCycle y1).wRun 255).wCycle y2:=by rw [hy2,hy1];rfl
 rw [hp];clear hp hy2 hy1 hr hf h cf hrun hl
 go_enter Tryz.func79,Tryz.ntmps79
 go_wp2_with fail;refine (hF.out _ _ own).mono ?_;rintro en w1 ⟨rfl,hs1⟩;clear hs;go_wp2_with fail;refine (hA.out _ rfl _ _ z6).mono ?_;rintro en w2 ⟨rfl,hs2⟩;go_wp2_with fail
 go_end0
 exact ⟨rfl,z3⟩
theorem zdR (b:Nat) (x:Fx) (c:Cf) (K:Kn) (h:Inv c K) (value:Int) (hvl:zG value) (w0 w:World) (hT:Tab w0) (F:HP) (hs:Sat w0 w (knP b x c K*F)) (hl:K.told.length≤99000) :
  Calls Tryz.prog 79 #[.pointer (some ⟨b,0,none⟩),.int .u32 value] w (zp w0 (.tuple #[]) (knP b x c (K.dispatch c value)*F)):=by
 cases hf:z0h K.R with
 | none =>
  by_cases hr:(255:Int)=K.run
  ·rw [zeR hf hr];exact zbC b x c K h hf hr value w0 w F hs
  ·rw [zeS hf hr];exact zbD b x c K h hf hr value w0 w F hs hl
 | some t =>
  by_cases hr:(t:Int)=K.run
  ·rw [zeT hf hr]
   by_cases hin:(K.T t).at_<(tcg c t).code.length
   ·by_cases hop:(K.ins c t).op≤20
    ·by_cases hr0:(doI (K.ins c t) ((K.paid c t).cx t)).1=0
     ·exact z80 b x c K h t hf hr K rfl hin hop hr0 value hvl w0 w hT F hs hl
     ·exact z76 b x c K h t hf hr K rfl hin hop hr0 value hvl w0 w hT F hs hl
    ·by_cases hop2:(K.ins c t).op=37
     ·exact z67 b x c K h t hf hr K rfl hin hop2 value hvl w0 w hT F hs hl
     ·exact z78 b x c K h t hf hr K rfl hin hop hop2 value hvl w0 w hT F hs hl
   ·exact z77 b x c K h t hf hr K rfl hin value hvl w0 w hT F hs hl
  ·rw [zhd hf hr];obtain ⟨K1,hK1⟩:∃ K1,K1=((K.tell c 5 t K.run 0).cost 10).wRun t:=⟨_,rfl⟩;rw [← hK1]
   by_cases hin:(K1.T t).at_<(tcg c t).code.length
   ·by_cases hop:(K1.ins c t).op≤20
    ·by_cases hr0:(doI (K1.ins c t) ((K1.paid c t).cx t)).1=0
     ·exact z90 b x c K h t hf hr K1 hK1 hin hop hr0 value hvl w0 w hT F hs hl
     ·exact z7X b x c K h t hf hr K1 hK1 hin hop hr0 value hvl w0 w hT F hs hl
    ·by_cases hop2:(K1.ins c t).op=37
     ·exact z75 b x c K h t hf hr K1 hK1 hin hop2 value hvl w0 w hT F hs hl
     ·exact z7Z b x c K h t hf hr K1 hK1 hin hop hop2 value hvl w0 w hT F hs hl
   ·exact z7Y b x c K h t hf hr K1 hK1 hin value hvl w0 w hT F hs hl
end Go.Proofs.YtgiiidminlhbpaaGreatDoor
