/-
  Parts of the proof: KernC KernD KernE KernG ConfA ConfB ConfC.
-/
import Derived.Handy
import Derived.Test.YthcfimbidmogkaaGreatDoorKC2
import Derived.Test.YthcfimbidmogkaaGreatDoorKC4
import Derived.Test.YthcfimbidmogkaaGreatDoorKC7
import Derived.Test.YthcfimbidmogkaaGreatDoorKC9
set_option linter.unusedVariables false
set_option linter.unusedSimpArgs false
set_option maxHeartbeats 32000000
set_option maxRecDepth 100000
namespace Go.Proofs.YthcfimbidmogkaaGreatDoor
open Go.RowKit Go.Sx Go.Dl Go.Lk Go.Rq Go.Au
section
variable {P:Program} {f:FuncId} {args:Array Value} {w0 w:World} {P1 P2 Q Q' R F:HP} {v:Value}
theorem z59 (e1:P1=Q*R) (e2:P2=Q'*R) (hs:Sat w0 w (P1*F)) (h:Sat w0 w (Q*(R*F))→Calls P f args w (zp w0 v (Q'*(R*F)))):Calls P f args w (zp w0 v (P2*F)) :=
 (h (hs.perm (by rw [e1];ac_rfl))).mono fun e w' hr=>⟨hr.1,hr.2.perm (by rw [e2];ac_rfl)⟩
theorem z69 {A:Value→HP} (e1:P1=Q*R) (e2:P2=Q'*R) (hs:Sat w0 w (P1*F)) (h:Sat w0 w (Q*(R*F))→Calls P f args w (Ret w0 fun v=>A v*(Q'*(R*F)))):Calls P f args w (Ret w0 fun v=>A v*(P2*F)) :=
 (h (hs.perm (by rw [e1];ac_rfl))).mono fun e w' hr=>let ⟨v,h1,h2⟩:=hr; ⟨v,h1,h2.perm (by rw [e2];ac_rfl)⟩
theorem zmh (e1:P1=Q*R) (e2:P2=Q'*R) (hs:Sat w0 w (P1*F)) (h:Sat w0 w (Q*(R*F))→Calls P f args w (Ret w0 fun _=>Q'*(R*F))):Calls P f args w (Ret w0 fun _=>P2*F) :=
 (h (hs.perm (by rw [e1];ac_rfl))).mono fun e w' hr=>let ⟨v,h1,h2⟩:=hr; ⟨v,h1,h2.perm (by rw [e2];ac_rfl)⟩
end
section
variable (b:Nat) (x:Fx) (c:Cf) (K:Kn) (w0 w:World) (F:HP) (hs:Sat w0 w (knP b x c K*F))
include hs
theorem z6q (hS:SOk K.S) (id:Int):Calls Tryz.prog 161 #[.pointer (some ⟨b,2,none⟩),.int .i64 id] w (zp w0 (.bool (decide (has K.S id))) (knP b x c (K.wS (z33 id K.S))*F)) :=
 let ⟨_,h⟩:=zme b x c K;z59 (h K.S) (h _) hs fun hs=>zeO b 2 K.S id w0 w _ hs hS
theorem zdV (hS:SOk K.S) (id t:Int):Calls Tryz.prog 37 #[.pointer (some ⟨b,2,none⟩),.int .i64 id,.int .i64 t] w (zp w0 (.int .i64 (znD K.S id t)) (knP b x c (K.wS (z5B K.S id t))*F)) :=
 let ⟨_,h⟩:=zme b x c K;z59 (h K.S) (h _) hs fun hs=>zj5 b 2 K.S id t w0 w _ hs hS
theorem zko (hS:SOk K.S):Calls Tryz.prog 78 #[.pointer (some ⟨b,2,none⟩)] w (Ret w0 fun v=>z5 .i64 v (z2H K.S)*(knP b x c (K.wS (z2X K.S))*F)) :=
 let ⟨_,h⟩:=zme b x c K;z69 (h K.S) (h _) hs fun hs=>zjR b 2 K.S w0 w _ hs hS
theorem zm7 (hS:SOk K.S) (id:Int):Calls Tryz.prog 237 #[.pointer (some ⟨b,2,none⟩),.int .i64 id] w (zp w0 (.int .i64 (z1M K.S id)) (knP b x c K*F)) :=
 let ⟨_,h⟩:=zme b x c K;z59 (h K.S) (h K.S) hs fun hs=>za0 b 2 K.S id w0 w _ hs hS
theorem zm6 (hS:SOk K.S):Calls Tryz.prog 59 #[.pointer (some ⟨b,2,none⟩)] w (Ret w0 fun v=>z7 v K.S*(knP b x c K*F)) :=
 let ⟨_,h⟩:=zme b x c K;z69 (h K.S) (h K.S) hs fun hs=>z9Z b 2 K.S w0 w _ hs hS
theorem zfp (t l:Nat) (ht:t<64) (hl:l<32):Calls Tryz.prog 115 #[.pointer (some ⟨b,260,none⟩),.int .i64 t,.int .i64 l] w (Ret w0 fun _=>knP b x c (K.wR (z9N K.R t l))*F) :=
 let ⟨_,h⟩:=zkp b x c K;zmh (h K.R) (h _) hs fun hs=>(zig b 260 K.R t l w0 w _ hs ht hl).mono fun e w' h=>⟨_,h.1,h.2⟩
theorem zd2 (t:Nat) (ht:t<64):Calls Tryz.prog 180 #[.pointer (some ⟨b,260,none⟩),.int .i64 t] w (zp w0 (.bool (z1H K.R t).isSome) (knP b x c (K.wR (z5F K.R t))*F)) :=
 let ⟨_,h⟩:=zkp b x c K;z59 (h K.R) (h _) hs fun hs=>zcd b 260 K.R t w0 w _ hs ht
theorem zkj (t:Nat) (ht:t<64):Calls Tryz.prog 189 #[.pointer (some ⟨b,260,none⟩),.int .i64 t] w (zp w0 (.bool (z1H K.R t).isSome) (knP b x c (K.wR (z6e K.R t))*F)) :=
 let ⟨_,h⟩:=zkp b x c K;z59 (h K.R) (h _) hs fun hs=>zge b 260 K.R t w0 w _ hs ht
theorem zki (t l:Nat) (ht:t<64) (hl:l<32):Calls Tryz.prog 225 #[.pointer (some ⟨b,260,none⟩),.int .i64 t,.int .i64 l] w (zp w0 (.bool (decide (z1H K.R t≠none∧z1H K.R t≠some l))) (knP b x c (K.wR (z6b K.R t l))*F)) :=
 let ⟨_,h⟩:=zkp b x c K;z59 (h K.R) (h _) hs fun hs=>zgd b 260 K.R t l w0 w _ hs ht hl
theorem zfo (e:z0h K.R=none):Calls Tryz.prog 132 #[.pointer (some ⟨b,260,none⟩)] w (zp w0 (.tuple #[.int .i64 0,.bool false]) (knP b x c K*F)) :=
 let ⟨_,h⟩:=zkp b x c K;z59 (h K.R) (h K.R) hs fun hs=>z7u b 260 K.R e w0 w _ hs
theorem z1G (t:Nat) (e:z0h K.R=some t) (hT:Tab w0):Calls Tryz.prog 132 #[.pointer (some ⟨b,260,none⟩)] w (zp w0 (.tuple #[.int .i64 t,.bool true]) (knP b x c K*F)) :=
 let ⟨_,h⟩:=zkp b x c K;z59 (h K.R) (h K.R) hs fun hs=>z7v b 260 K.R t e w0 w _ hs hT
theorem z43 (hL:Fit K.L):Calls Tryz.prog 120 #[.pointer (some ⟨x.lk,0,none⟩)] w (Ret w0 fun v=>z5 .i64 v K.L.now*(knP b x c K*F)) :=
 let ⟨_,h⟩:=zll b x c K;z69 (h K.L) (h K.L) hs fun hs=>zhG x.lk K.L w0 w _ hs hL
theorem zm8 (hL:Fit K.L) (t:Int):Calls Tryz.prog 181 #[.pointer (some ⟨x.lk,0,none⟩),.int .i64 t] w (Ret w0 fun v=>z5 .i64 v (z1O K.L t)*(knP b x c K*F)) :=
 let ⟨_,h⟩:=zll b x c K;z69 (h K.L) (h K.L) hs fun hs=>zmi x.lk K.L t w0 w _ hs hL
theorem zkg (hL:Fit K.L) (m:Int):Calls Tryz.prog 62 #[.pointer (some ⟨x.lk,0,none⟩),.int .i64 m] w (zp w0 (.int .i64 (z1D K.L m)) (knP b x c K*F)) :=
 let ⟨_,h⟩:=zll b x c K;z59 (h K.L) (h K.L) hs fun hs=>zkv x.lk K.L m w0 w _ hs hL
theorem zfw (hL:Fit K.L) (m:Int):Calls Tryz.prog 63 #[.pointer (some ⟨x.lk,0,none⟩),.int .i64 m] w (Ret w0 fun v=>z5 .i64 v (z2j K.L m)*(knP b x c K*F)) :=
 let ⟨_,h⟩:=zll b x c K;z69 (h K.L) (h K.L) hs fun hs=>zfF x.lk K.L m w0 w _ hs hL
theorem zmb (hL:Good K.L) (t m:Int):Calls Tryz.prog 226 #[.pointer (some ⟨x.lk,0,none⟩),.int .i64 t,.int .i64 m] w (zp w0 (.tuple #[.bool (z0f K.L t m).1,.int .i64 (z0f K.L t m).2.1]) (knP b x c (K.wL (z1B K.L t m))*F)):=by
 obtain ⟨_,h⟩:=zll b x c K;refine z59 (h K.L) (h _) hs fun hs=>(zmj x.lk K.L t m w0 w _ hs hL).mono ?_;rintro e w' ⟨h1,now',h2,h3⟩;refine ⟨h1,?_⟩;have e1:now'=z4U (z0f K.L t m).2.2.own (z0f K.L t m).2.2.ow (z0f K.L t m).2.2.rows:=z4H h2;unfold z1B;rw [← e1];exact h3
theorem zd4 (hL:Good K.L) (t m:Int):Calls Tryz.prog 182 #[.pointer (some ⟨x.lk,0,none⟩),.int .i64 t,.int .i64 m] w (zp w0 (.tuple #[.int .i64 (zi K.L t m).1,.int .i64 (zi K.L t m).2.1]) (knP b x c (K.wL (zE K.L t m))*F)):=by
 obtain ⟨_,h⟩:=zll b x c K;refine z59 (h K.L) (h _) hs fun hs=>(zhH x.lk K.L t m w0 w _ hs hL).mono ?_;rintro e w' ⟨h1,now',h2,h3⟩;refine ⟨h1,?_⟩;have e1:now'=z4U (zi K.L t m).2.2.own (zi K.L t m).2.2.ow (zi K.L t m).2.2.rows:=z4H h2;unfold zE;rw [← e1];exact h3
theorem z4L:Calls Tryz.prog 56 #[.pointer (some ⟨x.ln,0,none⟩)] w (zp w0 (.int .i64 K.ln.active) (knP b x c K*F)) :=
 let ⟨_,h⟩:=zaz b x c K;z59 (h K.ln) (h K.ln) hs fun hs=>zhJ x.ln K.ln w0 w _ hs
theorem zdT:Calls Tryz.prog 57 #[.pointer (some ⟨x.ln,0,none⟩)] w (zp w0 (.int .u32 K.ln.pending) (knP b x c K*F)) :=
 let ⟨_,h⟩:=zaz b x c K;z59 (h K.ln) (h K.ln) hs fun hs=>zfG x.ln K.ln w0 w _ hs
theorem zkc:Calls Tryz.prog 58 #[.pointer (some ⟨x.ln,0,none⟩)] w (zp w0 (.int .u32 K.ln.mask) (knP b x c K*F)) :=
 let ⟨_,h⟩:=zaz b x c K;z59 (h K.ln) (h K.ln) hs fun hs=>zmm x.ln K.ln w0 w _ hs
theorem z91:Calls Tryz.prog 130 #[.pointer (some ⟨x.ln,0,none⟩)] w (Ret w0 fun _=>knP b x c (K.wLn K.ln.leave)*F) :=
 let ⟨_,h⟩:=zaz b x c K;zmh (h K.ln) (h _) hs fun hs=>zkz x.ln K.ln w0 w _ hs
theorem zma (hl:zgY K.ln) (y:Nat) (hy:y<4294967296):Calls Tryz.prog 175 #[.pointer (some ⟨x.ln,0,none⟩),.int .u32 y] w (zp w0 (.tuple #[]) (knP b x c (K.wLn (K.ln.let_ y))*F)) :=
 let ⟨_,h⟩:=zaz b x c K;z59 (h K.ln) (h _) hs fun hs=>znu x.ln K.ln y w0 w _ hs hl hy
theorem zm9 (hl:zgY K.ln) (n:Nat) (hn:n<16):Calls Tryz.prog 129 #[.pointer (some ⟨x.ln,0,none⟩),.int .i64 n] w (zp w0 (.tuple #[]) (knP b x c (K.wLn (K.ln.bar n))*F)) :=
 let ⟨_,h⟩:=zaz b x c K;z59 (h K.ln) (h _) hs fun hs=>znt x.ln K.ln n w0 w _ hs hl hn
theorem zhy (hl:zgY K.ln) (y:Nat) (hy:y<4294967296):Calls Tryz.prog 86 #[.pointer (some ⟨x.ln,0,none⟩),.int .u32 y] w (zp w0 (.tuple #[.int .u32 (y &&& K.ln.all:Nat),.int .u32 ((y &&& K.ln.all) &&& K.ln.pending:Nat)]) (knP b x c (K.wLn (K.ln.raise y))*F)) :=
 let ⟨_,h⟩:=zaz b x c K;z59 (h K.ln) (h _) hs fun hs=>zkA x.ln K.ln y w0 w _ hs hl hy
theorem zhx (hl:zgY K.ln) (hT:Tab w0):Calls Tryz.prog 91 #[.pointer (some ⟨x.ln,0,none⟩)] w (zp w0 (.tuple #[.int .i64 (if K.ln.ready then K.ln.enter.active else 0),.bool K.ln.ready]) (knP b x c (K.wLn K.ln.enter)*F)) :=
 let ⟨_,h⟩:=zaz b x c K;z59 (h K.ln) (h _) hs fun hs=>zky x.ln K.ln w0 w _ hs hl hT
end
theorem z6o {c:Cf} {K:Kn} (h:Inv c K):zgY K.ln:=by
 have hn:=h.cf.nl;have hp:2^c.ls.length≤2^16:=Nat.pow_le_pow_right (by decide) hn;have:=h.pnd;have:=h.msk;have e:=h.all;exact ⟨by rw [e];omega,by omega,by omega⟩
theorem z49 {b:Nat} {x:Fx} {c:Cf} {K:Kn} {s:Nat} (h:s<c.sems.length):∃ R, ∀ m,knP b x c (K.wSm (upd K.sm s m))=z3f (x.sb s) m.1 m.2*R:=by
 obtain ⟨R,h1⟩:=zjg (b:=b) (x:=x) (K:=K) h;exact ⟨pts x.sa.b (x.sa.o+s) [.pointer (some ⟨x.sb s,0,none⟩)]*R,fun m=>by rw [h1];unfold zn2;ac_rfl⟩
theorem z1Q {b:Nat} {x:Fx} {c:Cf} {K:Kn} {s:Nat} (h:s<c.queues.length):∃ R, ∀ q,knP b x c (K.wMl (upd K.ml s q))=mqP (x.qb s) q*R:=by
 obtain ⟨R,h1⟩:=zfy (b:=b) (x:=x) (K:=K) h;exact ⟨pts x.qa.b (x.qa.o+s) [.pointer (some ⟨x.qb s,0,none⟩)]*R,fun q=>by rw [h1];unfold zhP;ac_rfl⟩
section
variable (b:Nat) (x:Fx) (c:Cf) (K:Kn) (w0 w:World) (F:HP) (hs:Sat w0 w (knP b x c K*F)) (s:Nat)
include hs
theorem zkn (h:s<c.sems.length) (ok:z1L (K.sm s).1 (K.sm s).2):Calls Tryz.prog 227 #[.pointer (some ⟨x.sb s,0,none⟩)] w (zp w0 (.int .i64 (z3t (K.sm s).1)) (knP b x c (K.wSm (upd K.sm s (z2W (K.sm s).1,(K.sm s).2)))*F)) :=
 let ⟨_,e⟩:=z49 (b:=b) (x:=x) (K:=K) h;z59 ((z2C b x c K s).symm.trans (e (K.sm s))) (e _) hs fun hs=>zgw (x.sb s) _ _ w0 w _ hs ok
theorem zhB (h:s<c.sems.length) (ok:z1L (K.sm s).1 (K.sm s).2) (t:Int):Calls Tryz.prog 228 #[.pointer (some ⟨x.sb s,0,none⟩),.int .i64 t] w (zp w0 (.int .i64 (awaitE (K.sm s).1 (K.sm s).2 t)) (knP b x c (K.wSm (upd K.sm s ((K.sm s).1,z4f (K.sm s).1 (K.sm s).2 t)))*F)) :=
 let ⟨_,e⟩:=z49 (b:=b) (x:=x) (K:=K) h;z59 ((z2C b x c K s).symm.trans (e (K.sm s))) (e _) hs fun hs=>zem (x.sb s) _ _ t w0 w _ hs ok
theorem zkm (h:s<c.sems.length) (ok:z1L (K.sm s).1 (K.sm s).2) (lv:Value) (levels:List Int) (hlv:RdN .i64 w lv levels):Calls Tryz.prog 119 #[.pointer (some ⟨x.sb s,0,none⟩),lv] w (zp w0 (.tuple #[.int .i64 (z7s levels (K.sm s).2),.int .i64 (Go.Proofs.YthcfimbidmogkaaGreatDoor.postE (K.sm s).1 (K.sm s).2)]) (knP b x c (K.wSm (upd K.sm s (z1Z (K.sm s).1 (K.sm s).2,z2I levels (K.sm s).2)))*F)) :=
 let ⟨_,e⟩:=z49 (b:=b) (x:=x) (K:=K) h;z59 ((z2C b x c K s).symm.trans (e (K.sm s))) (e _) hs fun hs=>zgv (x.sb s) _ _ lv levels w0 w _ hs hlv ok
theorem zfq (h:s<c.sems.length) (ok:z1L (K.sm s).1 (K.sm s).2) (t:Int):Calls Tryz.prog 116 #[.pointer (some ⟨x.sb s,0,none⟩),.int .i64 t] w (zp w0 (.bool (decide (t∈(K.sm s).2))) (knP b x c (K.wSm (upd K.sm s ((K.sm s).1,(K.sm s).2.erase t)))*F)) :=
 let ⟨_,e⟩:=z49 (b:=b) (x:=x) (K:=K) h;z59 ((z2C b x c K s).symm.trans (e (K.sm s))) (e _) hs fun hs=>zcj (x.sb s) _ _ t w0 w _ hs ok
theorem z99 (h:s<c.sems.length):Calls Tryz.prog 64 #[.pointer (some ⟨x.sb s,0,none⟩)] w (zp w0 (.int .i64 (K.sm s).1) (knP b x c K*F)):=by
 obtain ⟨_,e⟩:=z49 (b:=b) (x:=x) (K:=K) h;refine (zeo (x.sb s) _ _ w0 w _ (hs.perm (by rw [(z2C b x c K s).symm.trans (e (K.sm s))];ac_rfl:_=z3f (x.sb s) (K.sm s).1 (K.sm s).2*(_*F)))).mono ?_;rintro en w' ⟨rfl,rfl⟩;exact ⟨rfl,hs⟩
theorem zdZ (h:s<c.sems.length) (ok:z1L (K.sm s).1 (K.sm s).2):Calls Tryz.prog 65 #[.pointer (some ⟨x.sb s,0,none⟩)] w (Ret w0 fun v'=>z5 .i64 v' (K.sm s).2*(knP b x c K*F)) :=
 let ⟨_,e⟩:=z49 (b:=b) (x:=x) (K:=K) h;z69 ((z2C b x c K s).symm.trans (e (K.sm s))) ((z2C b x c K s).symm.trans (e (K.sm s))) hs fun hs=>zb4 (x.sb s) _ _ w0 w _ hs ok
theorem zfj (h:s<c.queues.length) (ok:z3Z (K.ml s)) (v:Int) (lv:Value) (levels:List Int) (hlv:RdN .i64 w lv levels):Calls Tryz.prog 216 #[.pointer (some ⟨x.qb s,0,none⟩),.int .u32 v,lv] w (zp w0 (.tuple #[.int .i64 ((K.ml s).sendT levels),.int .i64 (K.ml s).sendE]) (knP b x c (K.wMl (upd K.ml s ((K.ml s).send levels v)))*F)) :=
 let ⟨_,e⟩:=z1Q (b:=b) (x:=x) (K:=K) h;z59 ((z0I b x c K s).symm.trans (e (K.ml s))) (e _) hs fun hs=>zhU (x.qb s) _ v lv levels w0 w _ hs hlv ok
theorem zfi (h:s<c.queues.length) (ok:z3Z (K.ml s)) (lv:Value) (levels:List Int) (hst:z6E w0 F .i64 lv levels):Calls Tryz.prog 219 #[.pointer (some ⟨x.qb s,0,none⟩),lv] w (zp w0 (.tuple #[.int .u32 (K.ml s).recvV,.int .i64 ((K.ml s).recvT levels),.int .i64 (K.ml s).recvE]) (knP b x c (K.wMl (upd K.ml s ((K.ml s).recv levels)))*F)) :=
 let ⟨_,e⟩:=z1Q (b:=b) (x:=x) (K:=K) h;z59 ((z0I b x c K s).symm.trans (e (K.ml s))) (e _) hs fun hs=>zhT (x.qb s) _ lv levels w0 w _ hs (fun w h=>hst w h.drop) ok
theorem zke (h:s<c.queues.length) (ok:z3Z (K.ml s)) (t v:Int):Calls Tryz.prog 218 #[.pointer (some ⟨x.qb s,0,none⟩),.int .i64 t,.int .u32 v] w (zp w0 (.int .i64 ((K.ml s).holdE t)) (knP b x c (K.wMl (upd K.ml s ((K.ml s).hold t v)))*F)) :=
 let ⟨_,e⟩:=z1Q (b:=b) (x:=x) (K:=K) h;z59 ((z0I b x c K s).symm.trans (e (K.ml s))) (e _) hs fun hs=>zhQ (x.qb s) _ t v w0 w _ hs ok
theorem zhz (h:s<c.queues.length) (ok:z3Z (K.ml s)) (t:Int):Calls Tryz.prog 220 #[.pointer (some ⟨x.qb s,0,none⟩),.int .i64 t] w (zp w0 (.int .i64 ((K.ml s).awaitE t)) (knP b x c (K.wMl (upd K.ml s ((K.ml s).await t)))*F)) :=
 let ⟨_,e⟩:=z1Q (b:=b) (x:=x) (K:=K) h;z59 ((z0I b x c K s).symm.trans (e (K.ml s))) (e _) hs fun hs=>zfO (x.qb s) _ t w0 w _ hs ok
theorem zan (h:s<c.queues.length) (ok:z3Z (K.ml s)) (t:Int):Calls Tryz.prog 117 #[.pointer (some ⟨x.qb s,0,none⟩),.int .i64 t] w (zp w0 (.bool (decide ((K.ml s).waits t))) (knP b x c (K.wMl (upd K.ml s ((K.ml s).cancel t)))*F)) :=
 let ⟨_,e⟩:=z1Q (b:=b) (x:=x) (K:=K) h;z59 ((z0I b x c K s).symm.trans (e (K.ml s))) (e _) hs fun hs=>ze4 (x.qb s) _ t w0 w _ hs ok
end
theorem zgT (kd:Int) (h:1≤kd∧kd≤24) (w:World):Calls Tryz.prog 101 #[.int .i64 kd] w fun e w'=>e=.returned (.bool true)∧w=w':=by
 have h0:=h.1;have h1:=h.2
 go_enter Tryz.func101,Tryz.ntmps101
 go_wp2;go_ret;exact ⟨rfl,rfl⟩
theorem zj8 (f kd:Nat) (hf:f<4294967296) (hk:1≤kd∧kd≤24) (z:Bool) (hz:z1l f kd=z) (w:World):Calls Tryz.prog 34 #[.int .u32 f,.int .i64 kd] w fun e w'=>e=.returned (.bool z)∧w=w':=by
 unfold z1l at hz;rw [decide_eq_true (show 1≤kd∧kd≤24 from hk),Bool.true_and] at hz
 by_cases h:kd=24
 ·subst h;have hz:true=z:=by simpa using hz
  subst hz
  go_enter Tryz.func34,Tryz.ntmps34
  go_wp2_with fail;refine (zgT _ ⟨by omega,by omega⟩ _).mono ?_;rintro en w1 ⟨rfl,rfl⟩;go_wp2_with fail;go_ret;exact ⟨rfl,rfl⟩
 ·rw [decide_eq_false h,Bool.false_or] at hz;have e1:((kd:Int)==24)=false:=by simp;omega
  have hk1:kd≤24:=hk.2
  cases z
  ·have b1:=zcB hf hz;clear hz h
   go_enter Tryz.func34,Tryz.ntmps34
   go_wp2_with fail;refine (zgT _ ⟨by omega,by omega⟩ _).mono ?_;rintro en w1 ⟨rfl,rfl⟩;go_wp2_with fail;go_ret;exact ⟨rfl,rfl⟩
  ·have b1:=zeG hf hz;clear hz h
   go_enter Tryz.func34,Tryz.ntmps34
   go_wp2_with fail;refine (zgT _ ⟨by omega,by omega⟩ _).mono ?_;rintro en w1 ⟨rfl,rfl⟩;go_wp2_with fail;go_ret;exact ⟨rfl,rfl⟩
theorem zkt (b:Nat) (x:Fx) (c:Cf) (K:Kn):∃ R, ∀ n t,knP b x c ((K.wCycle n).wTold t)=pts b 0 [.int .u64 K.count,.int .u64 n]*(z6d b t*(pts b 518 (cfL x.c c)*R)) :=
 ⟨z21 b 2 K.S*(pts b 259 [.int .i64 c.table]*(rdP b 260 K.R*(cfH x.c c *
 (pts b 530 [.int .i64 K.run]*((ex fun v:Sh=>pts b 531 (cxL K.iat K.irg v.v)) *
 (pts b 541 (kcL x c K.reads K.stopped) *
 (zfR x c K.mems*(zbd x c (fun t=>(K.T t,K.tm t)) *
 (lkP x.lk K.L*(ziv x c K.sm*(zda x c K.ml*lnP x.ln K.ln))))))))))),fun n t=>by unfold knP;dsimp only [Kn.wCycle,Kn.wTold];ac_rfl⟩
instance (k cy co:Int) (a b v:Nat):zgX zjV [.int .i64 k,.int .u64 cy,.int .u64 co,.int .u32 a,.int .u32 b,.int .u32 v] [⟨k,cy,co,a,b,v⟩]:=⟨rfl⟩
instance (priority:=1090) {α:Type} {sz:Nat} (E:Enc α sz) (w:World) (v:Value) (l:List α) [h:RdC w E v l]:RdC w.drew E v l:=⟨h.rd⟩
theorem zbg {w0 w:World} {F:HP} {b:Nat} {l:List Ev} (hs:Sat w0 w (z6d b l*F)):∃ a cap,Sat w0 w (pts b 549 [.slice a l.length cap]*(z7 (.slice a l.length cap) l*F)):=by
 obtain ⟨v,hs⟩:=hs.ex_out;obtain ⟨a,cap,rfl⟩:=(hs.pull (Q:=z7 v l)).recs_form;exact ⟨a,cap,hs.perm (by ac_rfl)⟩
theorem z6A {w0 w:World} {F:HP} {b:Nat} {l:List Ev} {v:Value} (hs:Sat w0 w (pts b 549 [v]*(z7 v l*F))):Sat w0 w (z6d b l*F) :=
 Sat.ex_in (f:=fun v=>pts b 549 [v]*z7 v l) v (hs.perm (by ac_rfl))
theorem zN (b:Nat) (x:Fx) (c:Cf) (K:Kn) (kd:Nat) (kI:Int) (hkI:kI=kd) (a b' v:Int) (w0 w:World) (F:HP) (hs:Sat w0 w (knP b x c K*F)) (cf:z7T c) (hk:1≤kd∧kd≤24) (ha:zG a) (hb:zG b') (hv:zG v) (hl:K.told.length≤100000) :
  Calls Tryz.prog 81 #[.pointer (some ⟨b,0,none⟩),.int .i64 kI,.int .i64 a,.int .i64 b',.int .u32 v] w (zp w0 (.tuple #[]) (knP b x c (K.tell c kd a b' v)*F)):=by
 obtain ⟨a,rfl⟩:=Int.eq_ofNat_of_zero_le ha.1;obtain ⟨b',rfl⟩:=Int.eq_ofNat_of_zero_le hb.1;obtain ⟨v,rfl⟩:=Int.eq_ofNat_of_zero_le hv.1;have ha1:(a:Int)<4294967296:=ha.2;have hb1:(b':Int)<4294967296:=hb.2;have hv1:(v:Int)<4294967296:=hv.2;obtain ⟨g,hch⟩:=Int.eq_ofNat_of_zero_le cf.charge.1;have hg:g≤64:=by have:=cf.charge.2;omega
 obtain ⟨R,h⟩:=zkt b x c K;have H:=hid h;have e0:knP b x c K=pts b 0 [.int .u64 K.count,.int .u64 K.cycle]*(z6d b K.told*(pts b 518 (cfL x.c c)*R)):=h K.cycle K.told;rw [e0] at hs;have hs1:Sat w0 w (z6d b K.told*(pts b 0 [.int .u64 K.count,.int .u64 K.cycle]*(pts b 518 (cfL x.c c)*(R*F)))):=hs.perm (by ac_rfl);obtain ⟨sa,sc,hs2⟩:=zbg hs1;have hff:=cf.filter;have hP:=hid (fun z hz w=>zj8 c.filter kd hff hk z hz w);clear hs hs1 h e0 ha hb hv hff;subst hkI;have ua:IntKind.u32.wrap (a:Int)=a:=by rw [IntKind.wrap_u32];exact Int.emod_eq_of_lt (by omega) ha1
 have ub:IntKind.u32.wrap (b':Int)=b':=by rw [IntKind.wrap_u32];exact Int.emod_eq_of_lt (by omega) hb1
 cases hz:z1l c.filter kd
 ·have e1:K.tell c kd a b' v=K:=by unfold Kn.tell;rw [if_neg (by rw [hz];decide)]
  rw [e1];have Hz:=hid hz;clear hz
  go_enter Tryz.func81,Tryz.ntmps81
  go_wp2_with fail;refine (hP.out false Hz.out _).mono ?_;rintro en w1 ⟨rfl,rfl⟩;go_wp2_with fail
  go_end0
  refine ⟨rfl,?_⟩;have e2:knP b x c K=pts b 0 [.int .u64 K.count,.int .u64 K.cycle]*(z6d b K.told*(pts b 518 (cfL x.c c)*R)):=H.out K.cycle K.told;rw [e2];exact (z6A hs2).perm (by ac_rfl)
 ·have e1:K.tell c kd a b' v=(K.wCycle ((K.cycle+c.charge)%18446744073709551616)).wTold (K.told++[⟨kd,K.cycle,K.count,a,b',v⟩]):=by unfold Kn.tell;rw [if_pos hz];rfl
  rw [e1];have e2:=H.out ((K.cycle+c.charge)%18446744073709551616) (K.told++[⟨kd,K.cycle,K.count,a,b',v⟩]);rw [e2];have Hz:=hid hz;clear hz e1 e2;rw [hch]
  go_enter Tryz.func81,Tryz.ntmps81
  go_wp2_with fail;refine (hP.out true Hz.out _).mono ?_;rintro en w1 ⟨rfl,rfl⟩;go_wp2_with fail;refine z9 (w0:=w0) ?_;intro wx hsx;refine zw (fun w'=>Sat w0 w' (pts b 549 [.slice sa K.told.length sc]*(pts b 0 [.int .u64 K.count,.int .u64 K.cycle]*any))) 26 [(0,0),(1,0),(2,0),(3,0),(4,1),(5,0),(6,0),(7,0),(8,0),(9,0),(10,1),(11,0),(12,0),(13,0),(14,0),(15,1),(16,0),(17,0),(18,0),(19,0),(20,0),(21,0),(22,2),(23,2),(24,0),(25,0),(26,2)] (by kernel_rfl) (by kernel_rfl) (fun _ _ _ _ h=>h) zk ?_
  iterate 22 ((first | ((first | refine zpK rfl (by rfl) ?_ | refine zpM rfl (by rfl) ?_);apply Exists.intro;refine ⟨fun w hSw=>?_,?_⟩;focus ((try dsimp only at hSw);go_simp;try with_reducible rfl)) | refine zpJ rfl (by rfl) ?_ | refine zpL rfl (by rfl) ?_);simp only [Act.put,zqA,zqP,zqQ])
  refine zpN rfl (by rfl) (fun K hK=>?_);go_wp2_with fail;refine ⟨fun _=>zk,?_⟩;refine zpN rfl (by rfl) (fun K hK=>?_);refine z2J rfl rfl rfl (by omega) ?_;intro ap ac aL aw ahL ah1 ah2 ahs _;refine hK _ _ ⟨fun _=>zk,?_⟩;clear hK K;simp only [Act.put,zqA,zqP,zqQ]
  iterate 2 ((first | ((first | refine zpK rfl (by rfl) ?_ | refine zpM rfl (by rfl) ?_);apply Exists.intro;refine ⟨fun w hSw=>?_,?_⟩;focus ((try dsimp only at hSw);go_simp;try with_reducible rfl)) | refine zpJ rfl (by rfl) ?_ | refine zpL rfl (by rfl) ?_);simp only [Act.put,zqA,zqP,zqQ])
  refine zpN rfl (by rfl) (fun K hK=>?_);go_wp2_with fail;refine ⟨fun h=>absurd rfl h,z0b ?_⟩;go_wp2_with fail;clear hs2 hsx;refine z9 (w0:=w0) ?_;intro wx hsx;go_still_tail 15,(by kernel_rfl);change wpList _ _ _ _ _ wx.drew;go_wp2_with fail
  go_end0
  refine ⟨rfl,?_⟩;unfold Hid at ahL;subst ahL;rw [IntKind.wrap_u64];clear ahs;generalize K.told++[({ k:=(kd:Int),cy:=K.cycle,co:=K.count,a:=a,b:=b',v:=v }:Ev)]=L at hsx ⊢;refine Sat.perm (P:=z6d b L*(pts b 0 [.int .u64 K.count,.int .u64 ((K.cycle+(g:Int))%18446744073709551616)]*(pts b 518 (cfL x.c c)*(R*F)))) ?_ (by ac_rfl);exact z6A (v:=.slice ap L.length ac) z3
theorem zaw (b:Nat) (x:Fx) (c:Cf) (K:Kn) (w0 w:World) (F:HP) (hs:Sat w0 w (knP b x c K*F)) :
  Calls Tryz.prog 83 #[.pointer (some ⟨b,0,none⟩)] w (Ret w0 fun v=>z7 v K.told*(knP b x c K.take*F)):=by
 obtain ⟨R,h⟩:=zku b x c K;have H:=hid h;rw [show knP b x c K=z6d b K.told*R from h K.told] at hs;obtain ⟨sa,sc,hs2⟩:=zbg (hs.perm (zb _ _ _));clear hs h
 go_enter Tryz.func83,Tryz.ntmps83
 go_wp2_with fail;go_ret;refine ⟨_,rfl,?_⟩;refine Sat.perm (P:=z6d b []*(z7 (.slice sa K.told.length sc) K.told*(R*F))) ?_ (by rw [show knP b x c K.take=z6d b []*R from H.out []];ac_rfl);refine z6A (v:=.slice none 0 0) ?_;refine Sat.perm (P:=z7 (α:=Ev) (.slice none 0 0) []*(pts b 549 [.slice none 0 0]*(z7 (.slice sa K.told.length sc) K.told*(R*F)))) (Sat.slice_nil 6 ?_) (by ac_rfl);exact z3
theorem z8l (b:Nat) (x:Fx) (c:Cf) (K:Kn) (w0 w:World) (F:HP) (hs:Sat w0 w (knP b x c K*F)) (hS:SOk K.S) (z:Bool) (hz:K.noRoom c=z) :
  Calls Tryz.prog 221 #[.pointer (some ⟨b,2,none⟩)] w (zp w0 (.bool z) (knP b x c K*F)):=by
 have hF:=hid (fun w G hs=>zm7 b x c K w0 w G hs hS 64);have Hz:=hid hz;clear hS hz
 go_enter Tryz.func221,Tryz.ntmps221
 go_wp2_with fail;refine zj (fun w'=>Sat w0 w' (knP b x c K*any)) [(0,true),(1,true),(2,true),(4,true),(5,true),(6,true),(7,true),(3,false),(8,true),(9,true)] (by kernel_rfl) (by kernel_rfl) (fun _ _ _ _ h=>h) zq ?_
 iterate 7 ((first | (refine zpI rfl (by rfl) ?_;apply Exists.intro;refine ⟨fun w hSw=>?_,?_⟩;focus ((try dsimp only at hSw);go_simp;try with_reducible rfl)) | refine zpH rfl (by rfl) ?_);simp only [Act.put,zqA,zqP,zqQ])
 refine z29 rfl (by rfl) (fun K hK=>?_);go_wp2_with fail;refine (hF.out _ _ own).mono ?_;rintro en w1 ⟨rfl,hs1⟩;go_wp2_with fail;refine ⟨zq,?_⟩
 iterate 2 ((first | (refine zpI rfl (by rfl) ?_;apply Exists.intro;refine ⟨fun w hSw=>?_,?_⟩;focus ((try dsimp only at hSw);go_simp;try with_reducible rfl)) | refine zpH rfl (by rfl) ?_);simp only [Act.put,zqA,zqP,zqQ])
 refine zB ?_;go_wp2_with fail;go_ret;exact ⟨zgn (by rw [← Hz.out];rfl),hs1⟩
@[go_sem] theorem zni (i:Ins):z22 i=.agg #[.int .i64 i.op,.int .i64 i.a,.int .i64 i.b,.int .i64 i.c,.int .i64 i.d,.int .u32 i.k]:=rfl
@[go_sem] theorem zk1 (op a b c d k:Int) (w:World):Sem.run Tryz.prog (Instr.field 68 (.agg #[.int .i64 op,.int .i64 a,.int .i64 b,.int .i64 c,.int .i64 d,.int .u32 k]) 1) w=.ok (.int .i64 a) w:=by kernel_rfl
@[go_sem] theorem zk2 (op a b c d k:Int) (w:World):Sem.run Tryz.prog (Instr.field 68 (.agg #[.int .i64 op,.int .i64 a,.int .i64 b,.int .i64 c,.int .i64 d,.int .u32 k]) 2) w=.ok (.int .i64 b) w:=by kernel_rfl
theorem zlS (n:Int) (h:-9223372036854775808≤n∧n≤9223372036854775807):IntKind.i64.wrap n=n:=by simp [IntKind.wrap,IntKind.signed,IntKind.bits];omega
theorem zfh (b:Nat) (x:Fx) (c:Cf) (K:Kn) (t:Nat) (w0 w:World) (F:HP) (hs:Sat w0 w (knP b x c K*F)) (cf:z7T c) (ht:t<c.ts.length) (h1:1≤(K.T t).at_) (h2:(K.T t).at_≤(tcg c t).code.length) :
  Calls Tryz.prog 162 #[.pointer (some ⟨b,0,none⟩),.int .i64 t] w (zp w0 (z22 (K.call c t)) (knP b x c K*F)):=by
 have hcl:=(cf.t t ht).2.2.2.2.2;obtain ⟨n,hn⟩:=Int.eq_ofNat_of_zero_le (show 0≤(K.T t).at_-1 by omega);have hat:(K.T t).at_=(n:Int)+1:=by omega
 have hlt:n<(tcg c t).code.length:=by omega
 have hcall:K.call c t=zM (tcg c t).code n:=by unfold Kn.call;rw [hn]
 rw [hcall];have hnt:=cf.nt;haveI:Lt t c.ts.length:=⟨ht⟩;haveI:Lt n (tcg c t).code.length:=⟨hlt⟩;have a1:=x.ta.ad_pos (show 0<c.ts.length by omega);have a2:=x.c.ct.ad_pos (show 0<c.ts.length by omega);have a3:=(x.c.tv t).ad_pos (show 0<(tcg c t).code.length by omega);have i1:(t:Int)<(c.ts.length:Int):=by omega
 have i2:(n:Int)<((tcg c t).code.length:Int):=by omega
 have d1:decide (t<c.ts.length)=true:=decide_eq_true ht;have d2:decide (n<(tcg c t).code.length)=true:=decide_eq_true hlt;have w1:IntKind.i64.wrap (n:Int)=n:=zlS _ ⟨by omega,by omega⟩;clear hcall hn h1 h2 cf
 go_enter Tryz.func162,Tryz.ntmps162
 go_wp2_with fail;refine z9 (w0:=w0) ?_;intro wx hsx;go_still_tail 21,(by kernel_rfl);change wpList _ _ _ _ _ wx.drew;go_wp2_with fail;go_returns;exact ⟨rfl,z3⟩
theorem zgp {e:Int} (h:0≤e∧e≤16):zG e:=⟨h.1,by omega⟩
theorem zV (b:Nat) (x:Fx) (c:Cf) (K:Kn) (who cb co:Nat) (hcx:z4b b x c cb co who) (i:Ins) (hi:zI i) (e:Int) (he:0≤e∧e≤16) (w0 w:World) (F:HP) (hs:Sat w0 w (knP b x c K*F)) (cf:z7T c) (hw:who<80) (hl:K.told.length≤100000) :
  Calls Tryz.prog 176 #[.pointer (some ⟨b,0,none⟩),.int .i64 who,.pointer (some ⟨cb,co,none⟩),z22 i,.int .i64 e] w (zp w0 (.tuple #[]) (knP b x c (K.refuse c who i e)*F)):=by
 have hT:=hid (fun (kI:Int) (v:Int) (hk:kI=23) (hv:v=i.op) (w:World) (G:HP) (hs:Sat w0 w (knP b x c K*G))=>zN b x c K 23 kI hk who e v w0 w G hs cf (by decide) ⟨by omega,by omega⟩ (zgp he) (by rw [hv];have:=hi.op;exact ⟨by omega,by omega⟩) hl);obtain ⟨op,a,b',c',d,k⟩:=i;obtain ⟨a,rfl⟩:=Int.eq_ofNat_of_zero_le hi.a.1;haveI:Lt a 8:=⟨by have:=hi.a.2;have:(a:Int)<8:=this;omega⟩;have d1:decide (a<8)=true:=decide_eq_true (by have:=hi.a.2;have:(a:Int)<8:=this;omega);have i1:(a:Int)<8:=hi.a.2;have hop1:1≤op:=hi.op.1;have hop2:op≤38:=hi.op.2;have he0:0≤e:=he.1;have he1:e≤16:=he.2;have ue:IntKind.u32.wrap e=e:=by rw [IntKind.wrap_u32];exact Int.emod_eq_of_lt he0 (by omega)
 have uo:IntKind.u32.wrap op=op:=by rw [IntKind.wrap_u32];exact Int.emod_eq_of_lt (by omega) (by omega)
 clear hi he cf;have hR:K.refuse c who ⟨op,a,b',c',d,k⟩ e=(K.tell c 23 who e op).put who a e:=rfl;rw [hR];clear hR
 go_enter Tryz.func176,Tryz.ntmps176
 go_wp2_with fail;refine (hT.out _ _ rfl rfl _ _ own).mono ?_;rintro en w1 ⟨rfl,hs1⟩;clear hs;go_wp2_with fail;refine z9 (w0:=w0) ?_;intro wx hsx;go_still_tail 8,(by kernel_rfl);change wpList _ _ _ _ _ wx.drew;go_wp2_with fail
 go_end0
 exact ⟨rfl,z3⟩
attribute [go_sem] z01 z3V zgF zbe z5M z5L zld zle zgG ziI ziG ziH zer zc
structure z4A (c:Cf) (K:Kn) (t:Nat):Prop where
 cf:z7T c
 S:SOk K.S
 lt:t<c.ts.length
 at1:1≤(K.T t).at_
 at2:(K.T t).at_≤(tcg c t).code.length
 lev:0≤(K.T t).lev∧(K.T t).lev<32
 a:0≤(K.call c t).a∧(K.call c t).a<8
theorem zlg {c:Cf} {K:Kn} {t:Nat} {why a:Int} {na lv:Nat} (h1:(K.call c t).a=na) (h2:(K.T t).lev=lv) :
  K.wake c t why a=((((((K.wS (z33 (64+t) K.S)).wReg t na a).wSt t 1).wOn t 0).tell c 10 t why 0).wR (z9N (((((K.wS (z33 (64+t) K.S)).wReg t na a).wSt t 1).wOn t 0).tell c 10 t why 0).R t lv)):=by
 have e:((((K.wS (z33 (64+t) K.S)).wReg t na a).wSt t 1).wOn t 0)={ K with S:=z33 (64+t) K.S }.setT t { K.T t with rg:=(K.T t).rg.set na a,st:=1,on:=0 }:=by
  unfold Kn.wReg Kn.wSt Kn.wOn;simp only [z2V,z8]
  rfl
 rw [e];unfold Kn.wake;rw [h1,h2,Int.toNat_natCast,Int.toNat_natCast]
 rfl
theorem zax (b:Nat) (x:Fx) (c:Cf) (K:Kn) (t:Nat) (o:z4A c K t) (why a:Int) (hwhy:why=0∨why=1) (ha:0≤a∧a≤16) (w0 w:World) (F:HP) (hs:Sat w0 w (knP b x c K*F)) (hl:K.told.length≤100000) :
  Calls Tryz.prog 118 #[.pointer (some ⟨b,0,none⟩),.int .i64 t,.int .i64 why,.int .i64 a] w (zp w0 (.tuple #[]) (knP b x c (K.wake c t why a)*F)):=by
 obtain ⟨cf,hS,ht,h1,h2,h3,h4⟩:=o;have hnt:=cf.nt;obtain ⟨na,hna⟩:=Int.eq_ofNat_of_zero_le h4.1;obtain ⟨lv,hlv⟩:=Int.eq_ofNat_of_zero_le h3.1;have hlv32:lv<32:=by omega
 haveI:Lt na 8:=⟨by omega⟩;haveI:Lt t c.ts.length:=⟨ht⟩;have a1:=x.ta.ad_pos (show 0<c.ts.length by omega);have i1:(t:Int)<(c.ts.length:Int):=by omega
 have i2:(na:Int)<8:=by omega
 have d1:decide (t<c.ts.length)=true:=decide_eq_true ht;have d2:decide (na<8)=true:=decide_eq_true (by omega);have ua:IntKind.u32.wrap a=a:=by rw [IntKind.wrap_u32];exact Int.emod_eq_of_lt ha.1 (by omega)
 have hC:=hid (fun w G hs=>z6q b x c K w0 w G hs hS (64+t));have hCall:=hid (fun (w:World) (G:HP) (hs:Sat w0 w (knP b x c (K.wS (z33 (64+t) K.S))*G))=>zfh b x c (K.wS (z33 (64+t) K.S)) t w0 w G hs cf ht h1 h2);have hna:((K.wS (z33 (64+t) K.S)).call c t).a=na:=hna;have hTell:=hid (fun (K':Kn) (hl:K'.told.length≤100000) (kI:Int) (hk:kI=10) (w:World) (G:HP) (hs:Sat w0 w (knP b x c K'*G))=>zN b x c K' 10 kI hk t why 0 w0 w G hs cf (by decide) ⟨by omega,by omega⟩ (by rcases hwhy with rfl | rfl<;>exact ⟨by decide,by decide⟩) ⟨by decide,by decide⟩ hl);have Hl:=hid hl;have Ha:=hid ha;clear cf hS h1 h2 h3 h4 hl ha hwhy
 go_enter Tryz.func118,Tryz.ntmps118
 go_wp2_with fail;refine (hC.out _ _ own).mono ?_;rintro en w1 ⟨rfl,hs1⟩;clear hs;go_wp2_with fail;refine z9 (w0:=w0) ?_;intro wx hsx;refine zj (fun _=>True) [(0,true),(1,true),(2,true),(5,true),(6,true),(7,true),(8,true),(9,true),(3,false),(4,true),(10,true),(11,false)] (by kernel_rfl) (by kernel_rfl) (fun _ _ _ _ h=>h) trivial ?_
 iterate 8 ((first | (refine zpI rfl (by rfl) ?_;apply Exists.intro;refine ⟨fun w hSw=>?_,?_⟩;focus ((try dsimp only at hSw);go_simp;try with_reducible rfl)) | refine zpH rfl (by rfl) ?_);simp only [Act.put,zqA,zqP,zqQ])
 refine z29 rfl (by rfl) (fun K hK=>?_);go_wp2_with fail;refine (hCall.out _ _ z6).mono ?_;rintro en w2 ⟨rfl,hs2⟩;clear hsx hs1;go_wp2_with fail;refine ⟨trivial,?_⟩
 iterate 2 ((first | (refine zpI rfl (by rfl) ?_;apply Exists.intro;refine ⟨fun w hSw=>?_,?_⟩;focus ((try dsimp only at hSw);go_simp;try with_reducible rfl)) | refine zpH rfl (by rfl) ?_);simp only [Act.put,zqA,zqP,zqQ])
 refine z29 rfl (by rfl) (fun K hK=>?_);go_wp2_with fail;refine ⟨trivial,?_⟩;refine zB ?_;go_wp2_with fail;refine (hTell.out _ ?_ _ rfl _ _ z6).mono ?_
 ·exact Hl.out
 rintro en w3 ⟨rfl,hs3⟩;clear hs2;go_wp2_with fail;refine z9 (w0:=w0) ?_;intro wx hsx;go_still_tail 8,(by kernel_rfl);change wpList _ _ _ _ _ wx.drew;go_wp2_with fail;refine (zfp b x c _ w0 _ _ z6 t lv (by omega) hlv32).mono ?_;rintro en w4 ⟨vr,rfl,hs4⟩;clear hs3 hsx;go_wp2_with fail
 all_goals
  go_end0
  refine ⟨rfl,?_⟩;rw [zlg (K:=K) (show (K.call c t).a=na from hna) hlv];exact hs4
end Go.Proofs.YthcfimbidmogkaaGreatDoor
namespace Go.Proofs.YthcfimbidmogkaaGreatDoor
open Go.RowKit Go.Sx Go.Dl Go.Lk Go.Rq Go.Au
def zbn:Int→List Ev→Int→Prop
 | a,[],b=>a≤b
 | a,e::l,b=>a≤e.cy∧zbn e.cy l b
theorem zbn.le:∀ {l:List Ev} {a b:Int},zbn a l b→a≤b
 | [],_,_,h=>h
 | _::_,_,_,h=>Int.le_trans h.1 (zbn.le h.2)
theorem zbn.app:∀ {l:List Ev} {a b d:Int} {l':List Ev},zbn a l b→zbn b l' d→zbn a (l++l') d
 | [],a,b,d,[],h,k=>Int.le_trans h k
 | [],a,b,d,e::l',h,k=>⟨Int.le_trans h k.1,k.2⟩
 | e::l,a,b,d,l',h,k=>⟨h.1,zbn.app h.2 k⟩
structure zH (c:Cf) (lo n m:Nat) (K K':Kn):Prop where
 count:K'.count=K.count
 ev:∃ evs,K'.told=K.told++evs∧evs.length≤n∧(∀ e∈evs,okE e=true∧z1l c.filter e.k.toNat=true∧e.co=K.count) ∧
  (0≤K.cycle→K.cycle+n*64+m<18446744073709551616→K.cycle+lo≤K'.cycle∧K'.cycle≤K.cycle+n*64+m∧zbn K.cycle evs K'.cycle)
section
variable {c:Cf} {lo lo' n n' m m':Nat} {K K1 K2:Kn}
theorem zH.set (h1:K1.told=K.told) (h2:K1.cycle=K.cycle) (h3:K1.count=K.count):zH c 0 n m K K1 :=
 ⟨h3,[],by rw [h1];simp,Nat.zero_le _,by simp,fun h0 h=>⟨by rw [h2];simp,by rw [h2];omega,by show K.cycle≤K1.cycle;rw [h2];omega⟩⟩
theorem zH.refl:zH c 0 n m K K:=zH.set rfl rfl rfl
theorem zH.trans (h:zH c lo n m K K1) (k:zH c lo' n' m' K1 K2):zH c (lo+lo') (n+n') (m+m') K K2:=by
 obtain ⟨e1,l,a1,an,a2,a3⟩:=h;obtain ⟨e2,l',b1,bn,b2,b3⟩:=k;refine ⟨e2.trans e1,l++l',by rw [b1,a1,List.append_assoc],by rw [List.length_append];omega,fun e he=>?_,fun h0 h1=>?_⟩
 ·rcases List.mem_append.1 he with x | x
  ·exact a2 e x
  ·have:=b2 e x;rw [e1] at this;exact this
 ·obtain ⟨c1,c2,c3⟩:=a3 h0 (by omega);obtain ⟨d1,d2,d3⟩:=b3 (by omega) (by omega);exact ⟨by omega,by omega,c3.app d3⟩
theorem zH.le (h:zH c lo n m K K1) (h1:lo'≤lo) (h2:n≤n') (h3:m≤m'):zH c lo' n' m' K K1:=by
 obtain ⟨e1,l,a1,an,a2,a3⟩:=h;refine ⟨e1,l,a1,by omega,a2,fun h0 h=>?_⟩;obtain ⟨c1,c2,c3⟩:=a3 h0 (by omega);exact ⟨by omega,by omega,c3⟩
theorem zH.len (h:zH c lo n m K K1):K1.told.length≤K.told.length+n:=by
 obtain ⟨_,l,a1,an,_⟩:=h;rw [a1,List.length_append];omega
theorem zH.pre (h:zH c lo n m K1 K2) (h1:K1.told=K.told) (h2:K1.cycle=K.cycle) (h3:K1.count=K.count):zH c lo n m K K2:=by
 have:=(zH.set (c:=c) (n:=0) (m:=0) h1 h2 h3).trans h;exact this.le (by omega) (by omega) (by omega)
theorem zH.post (h:zH c lo n m K K1) (h1:K2.told=K1.told) (h2:K2.cycle=K1.cycle) (h3:K2.count=K1.count):zH c lo n m K K2:=by
 have:=h.trans (zH.set (c:=c) (n:=0) (m:=0) h1 h2 h3);exact this.le (by omega) (by omega) (by omega)
theorem zH.pl (h:zH c lo n m K1 K2) (h1:K1.told=K.told) (h2:K1.cycle=K.cycle) (h3:K1.count=K.count) (g1:lo'≤lo) (g2:n≤n') (g3:m≤m'):zH c lo' n' m' K K2:=(h.pre h1 h2 h3).le g1 g2 g3
theorem zH.ql (h:zH c lo n m K K1) (h1:K2.told=K1.told) (h2:K2.cycle=K1.cycle) (h3:K2.count=K1.count) (g1:lo'≤lo) (g2:n≤n') (g3:m≤m'):zH c lo' n' m' K K2:=(h.post h1 h2 h3).le g1 g2 g3
theorem zu (cf:z7T c) {kd:Nat} {a b v:Int} (hk:1≤kd∧kd≤24) (ok:okN kd a.toNat b.toNat v.toNat=true):zH c 0 1 0 K (K.tell c kd a b v):=by
 have hch:=cf.charge
 by_cases hp:z1l c.filter kd=true
 ·have e:K.tell c kd a b v={ K with told:=K.told++[⟨kd,K.cycle,K.count,a.toNat,b.toNat,v.toNat⟩],cycle:=(K.cycle+c.charge)%18446744073709551616 }:=by unfold Kn.tell;rw [if_pos hp]
  rw [e];refine ⟨rfl,[⟨kd,K.cycle,K.count,a.toNat,b.toNat,v.toNat⟩],rfl,Nat.le_refl _,fun e he=>?_,fun h0 h=>?_⟩
  ·rw [List.mem_singleton] at he;subst he;refine ⟨?_,hp,rfl⟩;unfold okE;show (decide (1≤(kd:Int)∧(kd:Int)≤24) && okN (kd:Int).toNat _ _ _)=true;rw [Int.toNat_natCast,ok,Bool.and_true];exact decide_eq_true ⟨by omega,by omega⟩
  ·show K.cycle+_≤(K.cycle+c.charge)%18446744073709551616∧(K.cycle+c.charge)%18446744073709551616≤_∧_;rw [Int.emod_eq_of_lt (by omega) (by omega)];exact ⟨by omega,by omega,Int.le_refl _,by show K.cycle≤K.cycle+c.charge;omega⟩
 ·have e:K.tell c kd a b v=K:=by unfold Kn.tell;rw [if_neg hp]
  rw [e];exact zH.refl
theorem z2e {x:Int} (h0:lo≤x) (h1:x≤m):zH c lo 0 m K (K.cost x):=by
 refine ⟨rfl,[],by simp [Kn.cost],Nat.zero_le _,by simp,fun g0 g=>?_⟩;show K.cycle+lo≤(K.cycle+x)%18446744073709551616∧(K.cycle+x)%18446744073709551616≤_∧K.cycle≤(K.cycle+x)%18446744073709551616;rw [Int.emod_eq_of_lt (by omega) (by omega)];omega
end
section
variable {c:Cf} {K:Kn}
theorem z1s {kd a b v:Nat} (h:win a (shp kd).1=true∧win b (shp kd).2.1=true∧win v (shp kd).2.2=true) (h5:kd≠5):okN kd a b v=true:=by
 unfold okN;rw [h.1,h.2.1,h.2.2];simp [h5]
theorem z2M (cf:z7T c) {t:Nat} (ht:t<64) {why a:Int} (hw:why=0∨why=1):zH c 0 1 0 K (K.wake c t why a):=by
 unfold Kn.wake;dsimp only;have h1:=zu (K:={ K with S:=z33 (64+t) K.S }.setT t { K.T t with rg:=(K.T t).rg.set (K.call c t).a.toNat a,st:=1,on:=0 }) cf (kd:=10) (a:=t) (b:=why) (v:=0) (by decide) (z1s ⟨?_,?_,rfl⟩ (by decide))
 ·exact (zH.pre h1 rfl rfl rfl:zH c 0 1 0 K _).post rfl rfl rfl
 ·simp [shp,win];omega
 ·simp [shp,win];omega
theorem z8g (h:Inv c K):∀ n,n≤c.ts.length→zH c 0 n 0 K (K.relev c n)
 | 0,_=>zH.refl
 | n+1,hn=>by
  have ih:=z8g h n (by omega);obtain ⟨hi,_,hL⟩:=z4K h n (by omega);have hr:=h.L.fit.nowr n (by rw [h.Ln];omega);have hr:0≤lg K.L.now n∧lg K.L.now n<32:=hr;have hnt:=h.cf.nt;unfold Kn.relev;dsimp only;rw [hL]
  split
  ·exact ih.le (by omega) (by omega) (by omega)
  ·have h1:=zu (K:=K.relev c n) h.cf (kd:=11) (a:=n) (b:=lg K.L.now n) (v:=0) (by decide) (z1s ⟨?_,?_,rfl⟩ (by decide))
   ·exact zH.post ((ih.trans h1).le (by omega) (by omega) (by omega)) rfl rfl rfl
   ·simp [shp,win];omega
   ·simp [shp,win];omega
theorem z3B (h:Inv c K):zH c 0 64 0 K (K.relevel c):=(z8g h _ (Nat.le_refl _)).le (by omega) h.cf.nt (by omega)
theorem z6S (h:Inv c K) {who:Int} (hw:who≤80) {s:Nat} (hs:s<c.sems.length):zH c 0 2 0 K (K.post c who s):=by
 have hok:=z5G (h.sm s hs) K.L.now;have hns:=h.cf.ns;have h1:zH c 0 1 0 K (({ K with sm:=upd K.sm s (z1Z (K.sm s).1 (K.sm s).2,z2I K.L.now (K.sm s).2) }).tell c 14 who s (z1Z (K.sm s).1 (K.sm s).2)):=by
  refine zH.pre (zu h.cf (by decide) (z1s ⟨?_,?_,?_⟩ (by decide))) rfl rfl rfl
  ·simp [shp,win];omega
  ·simp [shp,win];omega
  ·have:=hok.hi;simp [shp,win];omega
 unfold Kn.post;dsimp only
 split
 ·exact zH.refl
 ·split
  ·rename_i hne
   have hb:=z1n K.L.now _ hne;have hb2:=h.smr s hs _ hb;have hnt:=h.cf.nt;exact (h1.trans (z2M h.cf (by omega) (.inr rfl))).le (by omega) (by omega) (by omega)
  ·exact h1.le (by omega) (by omega) (by omega)
theorem zac (h:Inv c K) {t:Nat} (ht:t<c.ts.length):zH c 0 1 0 K (K.timeout c t):=by
 have hnt:=h.cf.nt;have key:∀ {K1:Kn} {a:Int},K1.told=K.told→K1.cycle=K.cycle→K1.count=K.count→zH c 0 1 0 K (K1.wake c t 0 a):=fun e1 e2 e3=>zH.pre (z2M h.cf (by omega) (.inl rfl)) e1 e2 e3;unfold Kn.timeout;dsimp only
 repeat' split
 ·exact zH.refl
 all_goals exact key rfl rfl rfl
theorem zaa (h:Inv c K) {t:Nat} (ht:t<c.ts.length):zH c 0 1 0 K (K.release c t):=by
 have hnt:=h.cf.nt;have hl:=(h.T t ht).late;have key:zH c 0 1 0 K (if (K.T t).st=0 then
   { (K.setT t { K.T t with job:=((K.T t).job+1)%4294967296,st:=1 }).tell c 6 t 0 (((K.T t).job+1)%4294967296) with R:=z9N ((K.setT t { K.T t with job:=((K.T t).job+1)%4294967296,st:=1 }).tell c 6 t 0 (((K.T t).job+1)%4294967296)).R t (K.T t).lev.toNat }
  else (K.setT t { K.T t with late:=min ((K.T t).late+1) 255 }).tell c 7 t 0 (min ((K.T t).late+1) 255)):=by
  split
  ·have h1:=zu (K:=K.setT t { K.T t with job:=((K.T t).job+1)%4294967296,st:=1 }) h.cf (kd:=6) (a:=t) (b:=0) (v:=((K.T t).job+1)%4294967296) (by decide) (z1s ⟨?_,rfl,rfl⟩ (by decide))
   ·exact (zH.pre h1 rfl rfl rfl:zH c 0 1 0 K _).post rfl rfl rfl
   ·simp [shp,win];omega
  ·refine zH.pre (zu h.cf (by decide) (z1s ⟨?_,rfl,?_⟩ (by decide))) rfl rfl rfl
   ·simp [shp,win];omega
   ·simp [shp,win];omega
 unfold Kn.release;dsimp only
 split
 ·exact key.post rfl rfl rfl
 ·exact key
theorem zf2 (h:Inv c K) {id:Int} (hp:z3P c K id):zH c 0 3 0 K (K.over c id):=by
 unfold Kn.over;dsimp only;obtain ⟨h0,h1,h2,h3⟩:=hp
 split
 ·rename_i e
  have:=h1 e;exact (zaa h (by omega)).le (by omega) (by omega) (by omega)
 split
 ·rename_i e1 e2
  have:=h2 (by omega) e2;exact (zac h (by omega)).le (by omega) (by omega) (by omega)
 ·rename_i e1 e2
  have h4:=h3 (by omega);have hnm:=h.cf.nm;have ht:=h.cf.timers (lg c.timers (id-128).toNat) (ze1 (by omega));have hi:=zl h 18 (id-128) 0 0;have g1:zH c 0 1 0 K (K.tell c 18 (id-128) 0 0):=zu h.cf (by decide) (z1s ⟨by simp [shp,win];omega,rfl,rfl⟩ (by decide));have g2:=z6S hi (who:=80) (by omega) (s:=(lg c.timers (id-128).toNat).toNat) (by omega)
  split
  ·rename_i hne
   have hp0:(K.tell c 18 (id-128) 0 0).post c 80 (lg c.timers (id-128).toNat).toNat=K.tell c 18 (id-128) 0 0:=by
    unfold Kn.post;exact if_pos hne
   rw [hp0];refine (g1.trans (zu h.cf (by decide) (z1s ⟨rfl,?_,rfl⟩ (by decide)))).le (by omega) (by omega) (by omega);unfold Kn.postE postE
   repeat' split
   all_goals rfl
  ·exact (g1.trans g2).le (by omega) (by omega) (by omega)
theorem z5l:∀ (l:List Int) (K:Kn) (_:Inv c K) (_:∀ id∈l,z3P c K id),zH c 0 (3*l.length) 0 K (l.foldl (fun K id=>K.over c id) K)
 | [],K,_,_=>zH.refl
 | id::l,K,h,hp=>by
  have h1:=zf2 h (hp id (by simp));have h2:=z5l l (K.over c id) (zcX h (hp id (by simp))) fun x hx=>z7r (z7j id) (hp x (by simp [hx]));exact (h1.trans h2).le (by omega) (by simp;omega) (by omega)
theorem zdf {S:List Ck} (h:SOk S):(z2H S).length≤256:=by
 have h1:=z5I h;have h2:(z2H S).length≤S.length:=by
  unfold z2H
  first
   | (rw [List.length_map];exact List.length_filter_le _ _)
   | exact Nat.le_trans (List.length_filterMap_le _ _) (Nat.le_refl _)
 omega
theorem zab (h:Inv c K) (hf:¬ K.full) (hs:K.stopped=false):zH c 0 768 0 { K with count:=K.count+1,S:=z2X K.S } (K.tick c):=by
 rw [z9J hf hs];have:=zdf h.S;exact (z5l (z2H K.S) _ (z5p h hf) fun id hid=>z5y h hid).le (by omega) (by omega) (by omega)
theorem z6T (h:Inv c K) (a b:Nat):∀ n,n≤c.ls.length→zH c 0 n 0 K (K.raiseN c a b n)
 | 0,_=>zH.refl
 | n+1,hn=>by
  have ih:=z6T h a b n (by omega);have hnl:=h.cf.nl;unfold Kn.raiseN;dsimp only
  split
  ·refine ih.trans (lo':=0) (zu h.cf (by decide) (z1s ⟨?_,?_,rfl⟩ (by decide)))
   ·simp [shp,win];omega
   ·split<;>rfl
  ·exact ih.le (by omega) (by omega) (by omega)
theorem z8f (h:Inv c K) (bits:Nat):zH c 0 16 0 K (K.raise c bits):=by
 unfold Kn.raise
 split
 ·exact zH.refl
 ·have h1:Inv c { K with ln:=K.ln.raise bits }:=z8j h bits;exact zH.pre ((z6T h1 _ _ _ (Nat.le_refl _)).le (by omega) h.cf.nl (by omega)) rfl rfl rfl
theorem zR (h:Inv c K) {who:Nat} (hw:z3u c who) {i:Ins} (hi:zI i) {e:Int} (he:0≤e∧e≤16):zH c 0 1 0 K (K.refuse c who i e):=by
 have hnl:=h.cf.nl;have hop:=hi.op;have hwho:who<80:=by rcases hw with a | a<;>omega
 unfold Kn.refuse;refine zH.post (zu h.cf (kd:=23) (a:=who) (b:=e) (v:=i.op) (by decide) (z1s ⟨?_,?_,?_⟩ (by decide))) ?_ ?_ ?_
 ·simp [shp,win];omega
 ·simp [shp,win];omega
 ·simp [shp,win];omega
 all_goals unfold Kn.put;split<;>rfl
theorem zQ {who:Nat} (n v:Int):(K.put who n v).told=K.told:=by unfold Kn.put;split<;>rfl
theorem z0T {who:Nat} (n v:Int):(K.put who n v).cycle=K.cycle:=by unfold Kn.put;split<;>rfl
theorem z0S {who:Nat} (n v:Int):(K.put who n v).count=K.count:=by unfold Kn.put;split<;>rfl
theorem zH.put {K1:Kn} {lo n m:Nat} {who:Nat} {r v:Int} (h:zH c lo n m K K1):zH c lo n m K (K1.put who r v):=h.post (zQ _ _) (z0T _ _) (z0S _ _)
theorem z4n (h:Inv c K) {t:Nat} (ht:t<64) {m next:Int} (hm:0≤m∧m<32) (hn:next=255∨0≤next∧next<64):zH c 0 3 0 K (K.handed c t m next):=by
 unfold Kn.handed;dsimp only;have h1:zH c 0 1 0 K (K.tell c 13 t m 0):=zu h.cf (by decide) (z1s ⟨by simp [shp,win];omega,by simp [shp,win];omega,rfl⟩ (by decide))
 split
 ·exact h1.le (by omega) (by omega) (by omega)
 ·rename_i e
  have hn:=hn.resolve_left e;refine ((h1.trans (z2M h.cf (t:=next.toNat) (by omega) (.inr rfl))).trans (lo':=0) (zu h.cf (kd:=12) (by decide) (z1s ⟨?_,?_,rfl⟩ (by decide)))).le (by omega) (by omega) (by omega)
  ·simp [shp,win];omega
  ·simp [shp,win];omega
theorem z4v (h:Inv c K) (t m:Int):(zi K.L t m).1=255∨0≤(zi K.L t m).1∧(zi K.L t m).1<64:=by
 rcases z0D K.L h.L t m with ⟨_,_,k⟩ | ⟨_,_,_,_,_,_,k⟩ | ⟨a,b,d,e,f,g,i,k⟩
 ·exact .inl k
 ·rw [k];exact .inl rfl
 ·have hx:=z4X h.L (m:=m.toNat) (by omega) i;rw [k];have:=h.cf.nt;have:=h.Ln;exact .inr ⟨hx.1,by have:=hx.2.1;dsimp only;omega⟩
theorem zeY (h:Inv c K) {t:Nat} (ht:t<64) {m:Int} (hm:0≤m∧m<32):zH c 0 3 0 K (K.give c t m):=by
 have ho:=z2q h.L t m;have h1:Inv c { K with L:=zE K.L t m }:=zah h (z1N h.L t m) (by rw [ho.1]) ho.2 fun u hu e=>by
  rcases z2b h.L t m e with f | f
  ·exact h.Lw u hu f.1
  ·exact h.Lw u hu f.1
 unfold Kn.give;exact zH.pre (z4n h1 ht hm (z4v h t m)) rfl rfl rfl
theorem z5k {t:Nat} (ht:t<64):∀ (l:List Int) (K:Kn),Inv c K→(∀ m∈l,0≤m∧m<32)→zH c 0 (3*l.length) 0 K (l.foldl (fun K m=>K.give c t m) K)
 | [],_,_,_=>zH.refl
 | m::l,K,h,hm=>((zeY h ht (hm m (by simp))).trans (z5k ht l _ (z6n h t m) fun x hx=>hm x (by simp [hx]))).le (by omega) (by simp;omega) (by omega)
theorem zcT {L:Lk} (hL:Fit L) (t:Int):(z1O L t).length≤32∧∀ m∈z1O L t,0≤m∧m<32:=by
 have hm:=hL.m;unfold z1O
 split
 ·refine ⟨Nat.le_trans (zaf _ _ _) hm,fun m h=>?_⟩;unfold z6V at h;obtain ⟨x,hx,rfl⟩:=List.mem_map.1 h;have:=List.mem_range.1 (List.mem_filter.1 hx).1;omega
 ·exact ⟨by simp,fun m h=>by cases h⟩
def Kn.left (K:Kn) (t:Nat) (status:Int):Kn:={ K.setT t { K.T t with st:=status } with R:=z5F K.R t }
theorem za9 {t:Nat} (ht:t<64) {status:Int} (h:Inv c (K.left t status)):zH c 0 160 0 K (K.gone c t status):=by
 have h1:=z5n h t;have hr:=zcT h.L.fit (t:Int);have h2:=z3E t (z1O K.L t) _ h1;have g1:=z5k ht (z1O K.L t) _ h1 hr.2;have hr1:(z1O K.L t).length≤32:=hr.1;exact zH.pre ((g1.trans (z3B h2)).le (by omega) (by omega) (by omega)) rfl rfl rfl
theorem z2L (cf:z7T c) {t:Nat} (ht:t<64) {status on:Int} (ho:on=0∨32≤on∧on<160) {i:Ins}:zH c 0 1 0 K (K.hold c t status on i):=by
 have key:∀ K1:Kn,zH c 0 1 0 K1 (K1.tell c 9 t on 0):=fun K1=>zu cf (by decide) (z1s ⟨by simp [shp,win];omega,by simp [shp,win];omega,rfl⟩ (by decide));unfold Kn.hold;dsimp only;refine zH.pre (key _) ?_ ?_ ?_
 all_goals by_cases e:i.d=2
 all_goals simp only [e,if_true,if_false,Kn.setT]
theorem z1A (t:Nat) (i:Ins):0≤K.holdE c t i∧K.holdE c t i≤16:=by
 unfold Kn.holdE;repeat' split
 all_goals simp
end
end Go.Proofs.YthcfimbidmogkaaGreatDoor
namespace Go.Sx
open Go.RowKit
theorem Sat.over {w0 w w':World} {P Q:HP} (hs:Sat w0 w P) (h:Sat w w' Q):Sat w0 w' (Q*P):=by
 obtain ⟨hp,p,kp⟩:=hs.own;obtain ⟨hq,q,kq⟩:=h.own;have hb:Below w0.heap.size w0 w':=hs.below.trans (h.below.mono hs.below.size);have up:∀ b o v,hp b o=some v→b<w.heap.size:=fun b o v e=>World.block_lt_of_cell? w _ (kp b o v e).2.1;refine ⟨hb,fun b o=>(hq b o).or (hp b o),?_,?_⟩
 ·refine ⟨hq,hp,fun b o=>?_,fun _ _=>rfl,q,p⟩
  cases e1:hq b o with
  | none=>exact .inl rfl
  | some v =>
   cases e2:hp b o with
   | none=>exact .inr rfl
   | some u =>
    have:=(kq b o v e1).1;have:=up b o u e2;omega
 ·intro b o v e;have e:(hq b o).or (hp b o)=some v:=e
  cases e1:hq b o with
  | some u =>
   rw [e1] at e;obtain rfl:u=v:=by simpa using e
   obtain ⟨k1,k2,k3⟩:=kq b o u e1;exact ⟨Nat.le_trans hs.below.size k1,k2,k3⟩
  | none =>
   rw [e1] at e;have e:hp b o=some v:=by simpa using e
   obtain ⟨k1,k2,k3⟩:=kp b o v e;have hlt:=up b o v e;exact ⟨k1,(h.below.cell (p:=⟨b,o,none⟩) hlt).trans k2,(h.below.frozen (p:=⟨b,o,none⟩) hlt).trans k3⟩
theorem Sat.past {w0 w w':World} {P:HP} (hs:Sat w0 w P) (h:Sat w w' emp):Sat w0 w' P:=(hs.over h).perm (zm _)
theorem z2i {w0:World} {α:Type} {sz:Nat} {E:Enc α sz} {b o:Nat} {l:List α} (h:∀ j u,(cellsOf l)[j]?=some u→w0.cell? ⟨b,o+j,none⟩=some u) {k c:Nat} {v:Value} (hk:k<l.length) (hc:c<sz) (he:(E.enc (l.getD k E.dft))[c]?=some v):w0.cell? ⟨b,o+k*sz+c,none⟩=some v:=by
 have:=h (k*sz+c) v (by rw [z0Y hk hc];exact he)
 rwa [← Nat.add_assoc] at this
end Go.Sx
namespace Go.Proofs.YthcfimbidmogkaaGreatDoor
open Go.RowKit Go.Sx Go.Dl Go.Lk Go.Rq Go.Au
def ftV (f:Ft):Value:=.agg #[.int .i64 f.err,.int .i64 f.part,.int .i64 f.index,.int .i64 f.at_]
theorem z0y (n lo hi:Int) (z:Bool) (hz:inR n lo hi=z) (w:World):Calls Tryz.prog 106 #[.int .i64 n,.int .i64 lo,.int .i64 hi] w fun e w'=>e=.returned (.bool z)∧w=w':=by
 subst hz;unfold inR
 by_cases h1:lo≤n
 ·by_cases h2:n≤hi
  ·have d1:decide (lo≤n)=true:=decide_eq_true h1;have d2:decide (n≤hi)=true:=decide_eq_true h2;rw [decide_eq_true (show lo≤n∧n≤hi from ⟨h1,h2⟩)];clear h1 h2
   go_enter Tryz.func106,Tryz.ntmps106
   go_wp2;go_ret;exact ⟨rfl,rfl⟩
  ·have d1:decide (lo≤n)=true:=decide_eq_true h1;have d2:decide (n≤hi)=false:=decide_eq_false h2;rw [decide_eq_false (show ¬ (lo≤n∧n≤hi) from fun h=>h2 h.2)];clear h1 h2
   go_enter Tryz.func106,Tryz.ntmps106
   go_wp2;go_ret;exact ⟨rfl,rfl⟩
 ·have d1:decide (lo≤n)=false:=decide_eq_false h1;rw [decide_eq_false (show ¬ (lo≤n∧n≤hi) from fun h=>h1 h.1)];clear h1
  go_enter Tryz.func106,Tryz.ntmps106
  go_wp2;go_ret;exact ⟨rfl,rfl⟩
theorem z1j (ok:Bool) (part:Int) (w:World):Calls Tryz.prog 105 #[.bool ok,.int .i64 part] w (zp w (ftV (z8u ok part)) emp):=by
 have hs:=Sat.start w;unfold z8u ftV
 cases ok
 ·go_enter Tryz.func105,Tryz.ntmps105
  go_wp2_with fail;go_returns;exact ⟨rfl,z3⟩
 ·go_enter Tryz.func105,Tryz.ntmps105
  go_wp2_with fail;go_returns;exact ⟨rfl,z3⟩
theorem zl0 {l:List Int} {p lo hi:Int} {k:Nat} (hl:¬ 32<l.length) (hk:k<l.length) (h:z4j l lo hi k=true) (hj:∀ j,j<k→z4j l lo hi j=false):z84 l p lo hi=⟨5,p,k,1⟩:=by
 unfold z84;rw [if_neg hl,z2y hk h hj]
theorem zgr {l:List Int} {p lo hi:Int} (hl:¬ 32<l.length) (hj:∀ j,j<l.length→z4j l lo hi j=false):z84 l p lo hi=ft0:=by
 unfold z84;rw [if_neg hl,z38 hj]
theorem zbq (v:Value) (l:List Int) (part lo hi:Int) (w0:World) (hr:RdN .i64 w0 v l):Calls Tryz.prog 107 #[v,.int .i64 part,.int .i64 lo,.int .i64 hi] w0 (zp w0 (ftV (z84 l part lo hi)) emp):=by
 have hs:=Sat.start w0;obtain ⟨a,cap,g,off,rfl,_,hcm,ha,hc⟩:=hr
 by_cases hl:32<l.length
 ·have hx:z84 l part lo hi=⟨4,part,0,0⟩:=by unfold z84;rw [if_pos hl]
  rw [hx];have d1:decide (32<l.length)=true:=decide_eq_true hl;have d2:decide ((32:Int)<(l.length:Int))=true:=by simp;omega
  clear ha hc hx
  go_enter Tryz.func107,Tryz.ntmps107
  go_wp2_with fail;go_returns;exact ⟨rfl,z3⟩
 ·have d1:decide (32<l.length)=false:=decide_eq_false hl;have d2:decide ((32:Int)<(l.length:Int))=false:=by simp;omega
  have Ha:=hid ha;have Hc:=hid hc;clear ha hc
  go_enter Tryz.func107,Tryz.ntmps107
  go_wp2_with fail;refine z9 (w0:=w0) ?_;intro ww hsw;clear hs
  go_loopw [18] (fun i wr=>∃ k:Nat,k≤l.length∧i=.int .i64 k∧(∀ j,j<k→z4j l lo hi j=false)∧Sat w0 wr (pts w0.heap.size 0 [.int .i64 0,.int .i64 0,.int .i64 0,.int .i64 0]*emp)) (fun i _=>l.length-(intOf i).toNat)
  case atStart=>exact ⟨0,Nat.zero_le _,rfl,fun j hj=>absurd hj (by omega),hsw⟩
  case round =>
   obtain ⟨k,hk,rfl,hb,hsr⟩:=hrel;clear hsw;have Hb:=hid hb;clear hb
   by_cases hlt:k<l.length
   ·have d3:decide (k<l.length)=true:=decide_eq_true hlt;have i3:(k:Int)<(l.length:Int):=by omega
    obtain rfl:=Ha.out (by intro h;simp [h] at hlt);haveI o1:Old w0 g (off+k) (.int .i64 (lg l k)):=⟨Hc.out k hlt⟩
    cases hz:inR (lg l k) lo hi
    ·have hx:=hid (zl0 (p:=part) hl hlt (by unfold z4j;rw [hz];rfl) Hb.out);have hI:=hid (fun w=>z0y (lg l k) lo hi false hz w);rw [hx.out];clear hz hx;go_wp2_with fail;refine (hI.out _).mono ?_;rintro en w1 ⟨rfl,rfl⟩;go_wp2_with fail;go_returns;exact ⟨rfl,z3⟩
    ·have hI:=hid (fun w=>z0y (lg l k) lo hi true hz w);have hb2:Hid (∀ j,j<k+1→z4j l lo hi j=false):=hid fun j hj=>by
      rcases Nat.lt_or_ge j k with h | h
      ·exact Hb.out j h
      ·obtain rfl:j=k:=by omega
       unfold z4j;rw [hz];rfl
     clear hz;go_wp2_with fail;refine (hI.out _).mono ?_;rintro en w1 ⟨rfl,rfl⟩;go_wp2_with fail;go_roundw
     case rel=>exact ⟨k+1,by omega,by go_num,hb2.out,z3⟩
     case measure=>simp [intOf];omega
   ·have hkl:k=l.length:=by omega
    subst hkl;have d3:decide (l.length<l.length)=false:=by simp
    have hx:=hid (zgr (p:=part) hl Hb.out);clear hlt;go_wp2_with fail
    all_goals
     go_returns;refine ⟨?_,z3⟩;rw [hx.out];rfl
end Go.Proofs.YthcfimbidmogkaaGreatDoor
namespace Go.Proofs.YthcfimbidmogkaaGreatDoor
open Go.RowKit Go.Sx Go.Dl Go.Lk Go.Rq Go.Au
structure Tv where
 lev:Int
 off:Int
 per:Int
 dl:Int
 mem:Int
 ca:Option Addr
 cn:Nat
 cc:Nat
structure Lv where
 mem:Int
 ca:Option Addr
 cn:Nat
 cc:Nat
def Tv.cv (t:Tv):Value:=.slice t.ca t.cn t.cc
def Lv.cv (t:Lv):Value:=.slice t.ca t.cn t.cc
abbrev tv0:Tv:=⟨0,0,0,0,0,none,0,0⟩
abbrev lv0:Lv:=⟨0,none,0,0⟩
instance z8Q:Enc Tv 6 where
 enc t:=[.int .i64 t.lev,.int .i64 t.off,.int .i64 t.per,.int .i64 t.dl,.int .i64 t.mem,.slice t.ca t.cn t.cc]
 len _:=rfl
 one t:=by intro u hu;simp at hu;rcases hu with rfl | rfl | rfl | rfl | rfl | rfl<;>rfl
 dft:=tv0
 pos:=by decide
instance z8P:Enc Lv 2 where
 enc t:=[.int .i64 t.mem,.slice t.ca t.cn t.cc]
 len _:=rfl
 one t:=by intro u hu;simp at hu;rcases hu with rfl | rfl<;>rfl
 dft:=lv0
 pos:=by decide
structure IsT (w:World) (v:Tv) (t:Tc):Prop where
 lev:v.lev=t.lev
 off:v.off=t.off
 per:v.per=t.per
 dl:v.dl=t.dl
 mem:v.mem=t.mem
 code:RdR w v.cv t.code
structure IsL (w:World) (v:Lv) (t:Lc):Prop where
 mem:v.mem=t.mem
 code:RdR w v.cv t.code
def zjD (w:World) (v:Value) (ts:List Tc):Prop:=∃ l:List Tv,RdR w v l∧l.length=ts.length∧∀ t,t<ts.length→IsT w (l.getD t tv0) (ts.getD t tc0)
def zjB (w:World) (v:Value) (ls:List Lc):Prop:=∃ l:List Lv,RdR w v l∧l.length=ls.length∧∀ t,t<ls.length→IsL w (l.getD t lv0) (ls.getD t lc0)
structure z8I (w:World) (v:Value) (c:Cf):Prop where
 out:∃ tv lv sv qv mv,v=.agg #[tv,lv,.int .i64 c.mutexes,sv,qv,mv,.int .i64 c.table,.int .u32 c.mask,.int .u32 c.filter,.int .i64 c.charge,.int .u64 c.cycle,.int .u64 c.count]∧zjD w tv c.ts∧zjB w lv c.ls∧RdN .i64 w sv c.sems∧RdN .i64 w qv c.queues∧RdN .i64 w mv c.timers
theorem zh9 {l:List Ins} {isr:Bool} {p i a:Int} {k:Nat} (hl:¬ 256<l.length) (hk:k<l.length) (h:z1V l isr k=true) (hj:∀ j,j<k→z1V l isr j=false):z5f l isr p i a=⟨z1y (zM l k) l.length isr,p,i,a+1+k⟩:=by
 unfold z5f;rw [if_neg hl,z2y hk h hj]
theorem zdC {l:List Ins} {isr:Bool} {p i a:Int} (hl:¬ 256<l.length) (hj:∀ j,j<l.length→z1V l isr j=false):z5f l isr p i a=ft0:=by
 unfold z5f;rw [if_neg hl,z38 hj]
theorem zcF (v:Value) (l:List Ins) (isr:Bool) (e0 part idx a0 at_:Int) (hat:0≤at_∧at_≤100) (hk:∀ i∈l,zG i.k) (w0:World) (hr:RdR w0 v l) :
  Calls Tryz.prog 155 #[v,.bool isr,.agg #[.int .i64 e0,.int .i64 part,.int .i64 idx,.int .i64 a0],.int .i64 at_] w0 (zp w0 (ftV (z5f l isr part idx at_)) emp):=by
 have hs:=Sat.start w0;obtain ⟨a,cap,g,off,rfl,_,hcm,ha,hc⟩:=hr;have hat0:=hat.1;have hat1:=hat.2
 by_cases hl:256<l.length
 ·have hx:z5f l isr part idx at_=⟨4,part,idx,at_⟩:=by unfold z5f;rw [if_pos hl]
  rw [hx];have d1:decide (256<l.length)=true:=decide_eq_true hl;have d2:decide ((256:Int)<(l.length:Int))=true:=by simp;omega
  clear ha hc hx
  go_enter Tryz.func155,Tryz.ntmps155
  go_wp2_with fail;go_returns;exact ⟨rfl,z3⟩
 ·have d1:decide (256<l.length)=false:=decide_eq_false hl;have d2:decide ((256:Int)<(l.length:Int))=false:=by simp;omega
  have Ha:=hid ha;have Hc:=hid hc;have Hk:=hid hk;clear ha hc hk
  go_enter Tryz.func155,Tryz.ntmps155
  go_wp2_with fail;refine z9 (w0:=w0) ?_;intro ww hsw;clear hs
  go_loopw [21] (fun i wr=>∃ k:Nat,k≤l.length∧i=.int .i64 k∧(∀ j,j<k→z1V l isr j=false)∧Sat w0 wr (pts w0.heap.size 0 [.int .i64 e0,.int .i64 part,.int .i64 idx,.int .i64 at_]*(pts (w0.heap.size+1) 0 [.int .i64 0,.int .i64 0,.int .i64 0,.int .i64 0]*any))) (fun i _=>l.length-(intOf i).toNat)
  case atStart=>exact ⟨0,Nat.zero_le _,rfl,fun j hj=>absurd hj (by omega),z3⟩
  case round =>
   obtain ⟨k,hk,rfl,hb,hsr⟩:=hrel;clear hsw;have Hb:=hid hb;clear hb
   by_cases hlt:k<l.length
   ·have d3:decide (k<l.length)=true:=decide_eq_true hlt;have i3:(k:Int)<(l.length:Int):=by omega
    obtain rfl:=Ha.out (by intro h;simp [h] at hlt);obtain ⟨i,hi⟩:∃ i,i=zM l k:=⟨_,rfl⟩;have hgd:l.getD k zmV=i:=by rw [hi];rfl
    have hik:zG i.k:=Hk.out i (by rw [hi];exact z3C (by omega) (by omega));have hcb:z1V l isr k=decide (z1y i l.length isr≠0):=by unfold z1V;rw [← hi]
    have hbad:=hid fun h=>zh9 (p:=part) (i:=idx) (a:=at_) hl hlt h Hb.out;rw [← hi] at hbad;have oc:∀ c u,c<6→(za3.enc i)[c]?=some u→w0.cell? ⟨g,off+k*6+c,none⟩=some u:=fun c u hc6 he=>z2i Hc.out hlt hc6 (by show (za3.enc (l.getD k zmV))[c]?=some u;rw [hgd];exact he);haveI o0:Old w0 g (off+k*6) (.int .i64 i.op):=⟨oc 0 _ (by decide) rfl⟩;haveI o1:Old w0 g (off+k*6+1) (.int .i64 i.a):=⟨oc 1 _ (by decide) rfl⟩;haveI o2:Old w0 g (off+k*6+2) (.int .i64 i.b):=⟨oc 2 _ (by decide) rfl⟩;haveI o3:Old w0 g (off+k*6+3) (.int .i64 i.c):=⟨oc 3 _ (by decide) rfl⟩;haveI o4:Old w0 g (off+k*6+4) (.int .i64 i.d):=⟨oc 4 _ (by decide) rfl⟩;haveI o5:Old w0 g (off+k*6+5) (.int .u32 i.k):=⟨oc 5 _ (by decide) rfl⟩;obtain ⟨z,hz⟩:∃ z,z=z1y i l.length isr:=⟨_,rfl⟩;have hI:=hid (fun (w:World) (P:HP) (hs:Sat w0 w (pts w0.heap.size 0 [.int .i64 e0,.int .i64 part,.int .i64 idx,.int .i64 at_]*P))=>zhu i l.length isr z hz.symm hik w0 w _ hs);rw [← hz] at hbad hcb;clear oc hgd hi hik
    by_cases hz0:z=0
    ·subst hz0;have hb2:Hid (∀ j,j<k+1→z1V l isr j=false):=hid fun j hj=>by
      rcases Nat.lt_or_ge j k with h | h
      ·exact Hb.out j h
      ·obtain rfl:j=k:=by omega
       rw [hcb];simp
     clear hz hcb hbad;go_wp2_with fail;refine (hI.out _ _ own).mono ?_;rintro en w1 ⟨rfl,hs1⟩;go_wp2_with fail;go_roundw
     case rel=>exact ⟨k+1,by omega,by go_num,hb2.out,z3⟩
     case measure=>simp [intOf];omega
    ·have hx:=hid (hbad.out (by rw [hcb];simp [hz0]));have z1:(z != 0)=true:=by simp [hz0]
     rw [hx.out];clear hz hcb hbad hz0 hx;go_wp2_with fail;refine (hI.out _ _ own).mono ?_;rintro en w1 ⟨rfl,hs1⟩;go_wp2_with fail;go_returns;exact ⟨rfl,z3⟩
   ·have hkl:k=l.length:=by omega
    subst hkl;have d3:decide (l.length<l.length)=false:=by simp
    have hx:=hid (zdC (p:=part) (i:=idx) (a:=at_) hl Hb.out);clear hlt;go_wp2_with fail
    all_goals
     go_returns;refine ⟨?_,z3⟩;rw [hx.out];rfl
theorem zha (v:Tv) (t:Tc) (i:Nat) (hi:i<1000) (hk:∀ i∈t.code,zG i.k) (w0:World) (hv:IsT w0 v t) :
  Calls Tryz.prog 154 #[.agg #[.int .i64 v.lev,.int .i64 v.off,.int .i64 v.per,.int .i64 v.dl,.int .i64 v.mem,.slice v.ca v.cn v.cc],.int .i64 i] w0 (zp w0 (ftV (z53 t i)) emp):=by
 obtain ⟨h1,h2,h3,h4,h5,h6⟩:=hv;have hC:=hid (fun (w:World) (h:Sat w0 w emp)=>zcF v.cv t.code false 5 1 i 0 6 (by decide) hk w (h6.later h));rw [h1,h2,h3,h4,h5];clear h1 h2 h3 h4 h5 h6 hk;have hs:=Sat.start w0;unfold z53
 cases g1:inR t.lev 0 31
 ·have hA:=hid (fun w=>z0y t.lev 0 31 false g1 w);clear g1 hC
  go_enter Tryz.func154,Tryz.ntmps154
  go_wp2_with fail;refine (hA.out _).mono ?_;rintro en w1 ⟨rfl,rfl⟩;go_wp2_with fail;go_returns;exact ⟨rfl,z3⟩
 cases g2:inR t.off 1 1073741824
 ·have hA:=hid (fun w=>z0y t.lev 0 31 true g1 w);have hB:=hid (fun w=>z0y t.off 1 1073741824 false g2 w);clear g1 g2 hC
  go_enter Tryz.func154,Tryz.ntmps154
  go_wp2_with fail;refine (hA.out _).mono ?_;rintro en w1 ⟨rfl,rfl⟩;go_wp2_with fail;refine (hB.out _).mono ?_;rintro en w1 ⟨rfl,rfl⟩;go_wp2_with fail;go_returns;exact ⟨rfl,z3⟩
 cases g3:inR t.per 0 1073741824
 ·have hA:=hid (fun w=>z0y t.lev 0 31 true g1 w);have hB:=hid (fun w=>z0y t.off 1 1073741824 true g2 w);have hD:=hid (fun w=>z0y t.per 0 1073741824 false g3 w);clear g1 g2 g3 hC
  go_enter Tryz.func154,Tryz.ntmps154
  go_wp2_with fail;refine (hA.out _).mono ?_;rintro en w1 ⟨rfl,rfl⟩;go_wp2_with fail;refine (hB.out _).mono ?_;rintro en w1 ⟨rfl,rfl⟩;go_wp2_with fail;refine (hD.out _).mono ?_;rintro en w1 ⟨rfl,rfl⟩;go_wp2_with fail;go_returns;exact ⟨rfl,z3⟩
 cases g4:inR t.dl 0 1073741824
 ·have hA:=hid (fun w=>z0y t.lev 0 31 true g1 w);have hB:=hid (fun w=>z0y t.off 1 1073741824 true g2 w);have hD:=hid (fun w=>z0y t.per 0 1073741824 true g3 w);have hE:=hid (fun w=>z0y t.dl 0 1073741824 false g4 w);clear g1 g2 g3 g4 hC
  go_enter Tryz.func154,Tryz.ntmps154
  go_wp2_with fail;refine (hA.out _).mono ?_;rintro en w1 ⟨rfl,rfl⟩;go_wp2_with fail;refine (hB.out _).mono ?_;rintro en w1 ⟨rfl,rfl⟩;go_wp2_with fail;refine (hD.out _).mono ?_;rintro en w1 ⟨rfl,rfl⟩;go_wp2_with fail;refine (hE.out _).mono ?_;rintro en w1 ⟨rfl,rfl⟩;go_wp2_with fail;go_returns;exact ⟨rfl,z3⟩
 cases g5:inR t.mem 0 256
 ·have hA:=hid (fun w=>z0y t.lev 0 31 true g1 w);have hB:=hid (fun w=>z0y t.off 1 1073741824 true g2 w);have hD:=hid (fun w=>z0y t.per 0 1073741824 true g3 w);have hE:=hid (fun w=>z0y t.dl 0 1073741824 true g4 w);have hF:=hid (fun w=>z0y t.mem 0 256 false g5 w);clear g1 g2 g3 g4 g5 hC
  go_enter Tryz.func154,Tryz.ntmps154
  go_wp2_with fail;refine (hA.out _).mono ?_;rintro en w1 ⟨rfl,rfl⟩;go_wp2_with fail;refine (hB.out _).mono ?_;rintro en w1 ⟨rfl,rfl⟩;go_wp2_with fail;refine (hD.out _).mono ?_;rintro en w1 ⟨rfl,rfl⟩;go_wp2_with fail;refine (hE.out _).mono ?_;rintro en w1 ⟨rfl,rfl⟩;go_wp2_with fail;refine (hF.out _).mono ?_;rintro en w1 ⟨rfl,rfl⟩;go_wp2_with fail;go_returns;exact ⟨rfl,z3⟩
 ·have hA:=hid (fun w=>z0y t.lev 0 31 true g1 w);have hB:=hid (fun w=>z0y t.off 1 1073741824 true g2 w);have hD:=hid (fun w=>z0y t.per 0 1073741824 true g3 w);have hE:=hid (fun w=>z0y t.dl 0 1073741824 true g4 w);have hF:=hid (fun w=>z0y t.mem 0 256 true g5 w);clear g1 g2 g3 g4 g5;rw [if_neg (by simp),if_neg (by simp),if_neg (by simp),if_neg (by simp),if_neg (by simp)];generalize z5f t.code false 1 i 6=z at *
  go_enter Tryz.func154,Tryz.ntmps154
  go_wp2_with fail;refine (hA.out _).mono ?_;rintro en w1 ⟨rfl,rfl⟩;go_wp2_with fail;refine (hB.out _).mono ?_;rintro en w1 ⟨rfl,rfl⟩;go_wp2_with fail;refine (hD.out _).mono ?_;rintro en w1 ⟨rfl,rfl⟩;go_wp2_with fail;refine (hE.out _).mono ?_;rintro en w1 ⟨rfl,rfl⟩;go_wp2_with fail;refine (hF.out _).mono ?_;rintro en w1 ⟨rfl,rfl⟩;go_wp2_with fail;refine (hC.out _ z3).mono ?_;rintro en w2 ⟨rfl,hs2⟩;have hs3:=Sat.past (w0:=w0) z6 hs2;clear hs2 hs;unfold ftV;go_wp2_with fail;go_returns;exact ⟨rfl,z3⟩
theorem IsT.later {w0 w:World} {v:Tv} {t:Tc} {P:HP} (h:IsT w0 v t) (hs:Sat w0 w P):IsT w v t:=⟨h.lev,h.off,h.per,h.dl,h.mem,h.code.later hs⟩
theorem IsL.later {w0 w:World} {v:Lv} {t:Lc} {P:HP} (h:IsL w0 v t) (hs:Sat w0 w P):IsL w v t:=⟨h.mem,h.code.later hs⟩
theorem zed {c:Cf} {k:Nat} (hl:¬ 64<c.ts.length) (hk:k<c.ts.length) (h:¬ (z53 (tcg c k) k).err=0) (hj:∀ j,j<k→(z53 (tcg c j) j).err=0):z0R c=z53 (tcg c k) k:=by
 unfold z0R;rw [if_neg hl,z2y hk (by unfold z5K;simp [h]) (fun j hj2=>by unfold z5K;simp [hj j hj2])]
theorem zc6 {c:Cf} (hl:¬ 64<c.ts.length) (hj:∀ j,j<c.ts.length→(z53 (tcg c j) j).err=0):z0R c=z3I c:=by
 unfold z0R;rw [if_neg hl,z38 (fun j hj2=>by unfold z5K;simp [hj j hj2])]
theorem zfC {c:Cf} {k:Nat} (hl:¬ 16<c.ls.length) (hk:k<c.ls.length) (h:¬ (z6a (lcg c k) k).err=0) (hj:∀ j,j<k→(z6a (lcg c j) j).err=0):z3I c=z6a (lcg c k) k:=by
 unfold z3I;rw [if_neg hl,z2y hk (by unfold z5t;simp [h]) (fun j hj2=>by unfold z5t;simp [hj j hj2])]
theorem zbU {c:Cf} (hl:¬ 16<c.ls.length) (hj:∀ j,j<c.ls.length→(z6a (lcg c j) j).err=0):z3I c=ft0:=by
 unfold z3I;rw [if_neg hl,z38 (fun j hj2=>by unfold z5t;simp [hj j hj2])]
theorem z9X (v:Value) (c:Cf) (rg:z6B c) (w0:World) (hr:z8I w0 v c) :
  Calls Tryz.prog 104 #[v] w0 (zp w0 (ftV (z0R c)) emp):=by
 have hs:=Sat.start w0;obtain ⟨tv,lv,sv,qv,mv,rfl,⟨T,hT,hTn,hTi⟩,⟨L,hL,hLn,hLi⟩,hS,hQ,hM⟩:=hr.out;clear hr;obtain ⟨sa,scap,_,_,rfl,_⟩:=hS;obtain ⟨qa,qcap,_,_,rfl,_⟩:=hQ;obtain ⟨ma,mcap,_,_,rfl,_⟩:=hM;obtain ⟨ta,tcap,tg,tto,rfl,_,_,hta,htc⟩:=hT;obtain ⟨la,lcap,lg',lo,rfl,_,_,hla,hlc⟩:=hL;rw [hTn,hLn];have Hta:=hid hta;have Htc:=hid htc;have Hla:=hid hla;have Hlc:=hid hlc;have HTn:=hid hTn;have HLn:=hid hLn;have HTi:=hid hTi;have HLi:=hid hLi;have Rg:=hid rg;clear hta htc hla hlc hTn hLn hTi hLi rg
 by_cases hl:64<c.ts.length
 ·have hx:z0R c=⟨4,1,0,0⟩:=by unfold z0R;rw [if_pos hl]
  rw [hx];have d1:decide (64<c.ts.length)=true:=decide_eq_true hl;have d2:decide ((64:Int)<(c.ts.length:Int))=true:=by simp;omega
  clear hx
  go_enter Tryz.func104,Tryz.ntmps104
  go_wp2_with fail;go_returns;exact ⟨rfl,z3⟩
 ·have d1:decide (64<c.ts.length)=false:=decide_eq_false hl;have d2:decide ((64:Int)<(c.ts.length:Int))=false:=by simp;omega
  go_enter Tryz.func104,Tryz.ntmps104
  go_wp2_with fail;refine z9 (w0:=w0) ?_;intro ww hsw;clear hs
  go_loopw [18] (fun i wr=>∃ k:Nat,k≤c.ts.length∧i=.int .i64 k∧(∀ j,j<k→(z53 (tcg c j) j).err=0)∧Sat w0 wr (pts w0.heap.size 0 [.slice ta c.ts.length tcap,.slice la c.ls.length lcap,.int .i64 c.mutexes,.slice sa c.sems.length scap,.slice qa c.queues.length qcap,.slice ma c.timers.length mcap,.int .i64 c.table,.int .u32 c.mask,.int .u32 c.filter,.int .i64 c.charge,.int .u64 c.cycle,.int .u64 c.count]*(pts (w0.heap.size+1) 0 [.int .i64 0,.int .i64 0,.int .i64 0,.int .i64 0]*any))) (fun i _=>c.ts.length-(intOf i).toNat)
  case atStart=>exact ⟨0,Nat.zero_le _,rfl,fun j hj=>absurd hj (by omega),z3⟩
  case round =>
   obtain ⟨k,hk,rfl,hb,hsr⟩:=hrel;clear hsw;have Hb:=hid hb;clear hb
   by_cases hlt:k<c.ts.length
   ·have d3:decide (k<c.ts.length)=true:=decide_eq_true hlt;have i3:(k:Int)<(c.ts.length:Int):=by omega
    have hTl:=HTn.out;obtain rfl:=Hta.out (by intro h;simp [h] at hTl;omega);have hit:=HTi.out k hlt;obtain ⟨u,hu⟩:∃ u,u=T.getD k tv0:=⟨_,rfl⟩;have oc:∀ c' y,c'<6→(z8Q.enc u)[c']?=some y→w0.cell? ⟨tg,tto+k*6+c',none⟩=some y:=fun c' y hc6 he=>z2i Htc.out (by omega) hc6 (by show (z8Q.enc (T.getD k tv0))[c']?=some y;rw [← hu];exact he);rw [← hu] at hit;haveI o0:Old w0 tg (tto+k*6) (.int .i64 u.lev):=⟨oc 0 _ (by decide) rfl⟩;haveI o1:Old w0 tg (tto+k*6+1) (.int .i64 u.off):=⟨oc 1 _ (by decide) rfl⟩;haveI o2:Old w0 tg (tto+k*6+2) (.int .i64 u.per):=⟨oc 2 _ (by decide) rfl⟩;haveI o3:Old w0 tg (tto+k*6+3) (.int .i64 u.dl):=⟨oc 3 _ (by decide) rfl⟩;haveI o4:Old w0 tg (tto+k*6+4) (.int .i64 u.mem):=⟨oc 4 _ (by decide) rfl⟩;haveI o5:Old w0 tg (tto+k*6+5) (.slice u.ca u.cn u.cc):=⟨oc 5 _ (by decide) rfl⟩;obtain ⟨z,hz⟩:∃ z,z=z53 (tcg c k) k:=⟨_,rfl⟩;have hA:=hid (fun (w:World) (hs:Sat w0 w any)=>zha u (tcg c k) k (by omega) (Rg.out.tk k hlt) w (hit.later hs));have hbad:=hid fun h=>zed hl hlt h Hb.out;rw [← hz] at hA hbad;unfold ftV at hA;clear oc hu hTl hit
    by_cases hz0:z.err=0
    ·have hb2:Hid (∀ j,j<k+1→(z53 (tcg c j) j).err=0):=hid fun j hj=>by
      rcases Nat.lt_or_ge j k with h | h
      ·exact Hb.out j h
      ·obtain rfl:j=k:=by omega
       rw [← hz];exact hz0
     clear hz hbad;go_wp2_with fail;refine (hA.out _ z3).mono ?_;rintro en w1 ⟨rfl,hs1⟩;have hs2:=Sat.past (w0:=w0) z6 hs1;clear hs1 hsr;go_wp2_with fail;go_roundw
     case rel=>exact ⟨k+1,by omega,by go_num,hb2.out,z3⟩
     case measure=>simp [intOf];omega
    ·have hx:=hid (hbad.out hz0);have z1:(z.err != 0)=true:=by simp [hz0]
     rw [hx.out];clear hz hbad hz0 hx;go_wp2_with fail;refine (hA.out _ z3).mono ?_;rintro en w1 ⟨rfl,hs1⟩;have hs2:=Sat.past (w0:=w0) z6 hs1;clear hs1 hsr;go_wp2_with fail;go_returns;exact ⟨rfl,z3⟩
   ·have hkl:k=c.ts.length:=by omega
    subst hkl;have d3:decide (c.ts.length<c.ts.length)=false:=by simp
    have hx1:=hid (zc6 hl Hb.out);clear hlt hk
    by_cases hl2:16<c.ls.length
    ·have hx2:z3I c=⟨4,2,0,0⟩:=by unfold z3I;rw [if_pos hl2]
     have Hx:=hid (hx1.out.trans hx2);have d4:decide (16<c.ls.length)=true:=decide_eq_true hl2;have d5:decide ((16:Int)<(c.ls.length:Int))=true:=by simp;omega
     clear hx1 hx2;go_wp2_with fail
     all_goals
      go_returns;refine ⟨?_,z3⟩;rw [Hx.out];rfl
    ·have d4:decide (16<c.ls.length)=false:=decide_eq_false hl2;have d5:decide ((16:Int)<(c.ls.length:Int))=false:=by simp;omega
     go_wp2_with fail;refine z9 (w0:=w0) ?_;intro w3 hs3;clear hsr
     go_loopw [39] (fun i wr=>∃ k:Nat,k≤c.ls.length∧i=.int .i64 k∧(∀ j,j<k→(z6a (lcg c j) j).err=0)∧Sat w0 wr (pts w0.heap.size 0 [.slice ta c.ts.length tcap,.slice la c.ls.length lcap,.int .i64 c.mutexes,.slice sa c.sems.length scap,.slice qa c.queues.length qcap,.slice ma c.timers.length mcap,.int .i64 c.table,.int .u32 c.mask,.int .u32 c.filter,.int .i64 c.charge,.int .u64 c.cycle,.int .u64 c.count]*(pts (w0.heap.size+1) 0 [.int .i64 0,.int .i64 0,.int .i64 0,.int .i64 0]*any))) (fun i _=>c.ls.length-(intOf i).toNat)
     case atStart=>exact ⟨0,Nat.zero_le _,rfl,fun j hj=>absurd hj (by omega),z3⟩
     case round =>
      obtain ⟨k,hk,rfl,hb,hsr⟩:=hrel;clear hs3;have Hb2:=hid hb;clear hb
      by_cases hlt:k<c.ls.length
      ·have d6:decide (k<c.ls.length)=true:=decide_eq_true hlt;have i3:(k:Int)<(c.ls.length:Int):=by omega
       have hLl:=HLn.out;obtain rfl:=Hla.out (by intro h;simp [h] at hLl;omega);have hit:=HLi.out k hlt;obtain ⟨u,hu⟩:∃ u,u=L.getD k lv0:=⟨_,rfl⟩;have oc:∀ c' y,c'<2→(z8P.enc u)[c']?=some y→w0.cell? ⟨lg',lo+k*2+c',none⟩=some y:=fun c' y hc6 he=>z2i Hlc.out (by omega) hc6 (by show (z8P.enc (L.getD k lv0))[c']?=some y;rw [← hu];exact he);rw [← hu] at hit;have hit:IsL w0 u (lcg c k):=hit;haveI o0:Old w0 lg' (lo+k*2) (.int .i64 (lcg c k).mem):=⟨by rw [← hit.mem];exact oc 0 _ (by decide) rfl⟩;haveI o1:Old w0 lg' (lo+k*2+1) (.slice u.ca u.cn u.cc):=⟨oc 1 _ (by decide) rfl⟩;obtain ⟨z,hz⟩:∃ z,z=z6a (lcg c k) k:=⟨_,rfl⟩;have hbad:=hid fun h=>zfC hl2 hlt h Hb2.out;rw [← hz] at hbad;have hC:=hid (fun (w:World) (h:Sat w0 w any)=>zcF u.cv (lcg c k).code true 5 2 k 1 2 (by decide) (Rg.out.lk k hlt) w (hit.code.later h));clear oc hu hLl hit
       cases g:inR (lcg c k).mem 0 256
       ·have hze:z=⟨5,2,k,1⟩:=by rw [hz];unfold z6a;rw [if_pos (by simp [g])]
        have hx:=hid (hx1.out.trans (hbad.out (by rw [hze];simp)));rw [hze] at hx;have hA:=hid (fun w=>z0y (lcg c k).mem 0 256 false g w);clear hz hbad g hze hC;go_wp2_with fail;refine (hA.out _).mono ?_;rintro en w1 ⟨rfl,rfl⟩;go_wp2_with fail;go_returns;refine ⟨?_,z3⟩;rw [hx.out];rfl
       ·have hze:z=z5f (lcg c k).code true 2 k 2:=by rw [hz];unfold z6a;rw [if_neg (by simp [g])]
        have hA:=hid (fun w=>z0y (lcg c k).mem 0 256 true g w);rw [← hze] at hC;unfold ftV at hC;clear g hze
        by_cases hz0:z.err=0
        ·have hb2:Hid (∀ j,j<k+1→(z6a (lcg c j) j).err=0):=hid fun j hj=>by
          rcases Nat.lt_or_ge j k with h | h
          ·exact Hb2.out j h
          ·obtain rfl:j=k:=by omega
           rw [← hz];exact hz0
         clear hz hbad;go_wp2_with fail;refine (hA.out _).mono ?_;rintro en w1 ⟨rfl,rfl⟩;go_wp2_with fail;refine (hC.out _ z3).mono ?_;rintro en w1 ⟨rfl,hs1⟩;have hs2:=Sat.past (w0:=w0) z6 hs1;clear hs1 hsr;go_wp2_with fail;go_roundw
         case rel=>exact ⟨k+1,by omega,by go_num,hb2.out,z3⟩
         case measure=>simp [intOf];omega
        ·have hx:=hid (hx1.out.trans (hbad.out hz0));have z1:(z.err != 0)=true:=by simp [hz0]
         clear hz hbad hz0;go_wp2_with fail;refine (hA.out _).mono ?_;rintro en w1 ⟨rfl,rfl⟩;go_wp2_with fail;refine (hC.out _ z3).mono ?_;rintro en w1 ⟨rfl,hs1⟩;have hs2:=Sat.past (w0:=w0) z6 hs1;clear hs1 hsr;go_wp2_with fail;go_returns;refine ⟨?_,z3⟩;rw [hx.out];rfl
      ·have hkl:k=c.ls.length:=by omega
       subst hkl;have d6:decide (c.ls.length<c.ls.length)=false:=by simp
       have Hx:=hid (hx1.out.trans (zbU hl2 Hb2.out));clear hlt hk hx1;go_wp2_with fail
       all_goals
        go_returns;refine ⟨?_,z3⟩;rw [Hx.out];rfl
end Go.Proofs.YthcfimbidmogkaaGreatDoor
