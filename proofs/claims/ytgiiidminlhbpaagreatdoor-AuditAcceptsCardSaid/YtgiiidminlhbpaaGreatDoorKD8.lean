/-
  Parts of the proof: KernC KernD KernE KernG ConfA ConfB CfOpen KernH.
-/
import Derived.Handy
import Derived.Test.YtgiiidminlhbpaaGreatDoorKD0
import Derived.Test.YtgiiidminlhbpaaGreatDoorKD2
import Derived.Test.YtgiiidminlhbpaaGreatDoorKD4
import Derived.Test.YtgiiidminlhbpaaGreatDoorKD5
import Derived.Test.YtgiiidminlhbpaaGreatDoorKD7
set_option linter.unusedVariables false
set_option linter.unusedSimpArgs false
set_option maxHeartbeats 32000000
set_option maxRecDepth 100000
namespace Go.Proofs.YtgiiidminlhbpaaGreatDoor
open Go.RowKit Go.Sx Go.Dl Go.Lk Go.Rq Go.Au
section
variable {P:Program} {f:FuncId} {args:Array Value} {w0 w:World} {P1 P2 Q Q' R F:HP} {v:Value}
theorem z59 (e1:P1=Q*R) (e2:P2=Q'*R) (hs:Sat w0 w (P1*F)) (h:Sat w0 w (Q*(R*F))→Calls P f args w (zp w0 v (Q'*(R*F)))):Calls P f args w (zp w0 v (P2*F)) :=
 (h (hs.perm (by rw [e1];ac_rfl))).mono fun e w' hr=>⟨hr.1,hr.2.perm (by rw [e2];ac_rfl)⟩
theorem z69 {A:Value→HP} (e1:P1=Q*R) (e2:P2=Q'*R) (hs:Sat w0 w (P1*F)) (h:Sat w0 w (Q*(R*F))→Calls P f args w (Ret w0 fun v=>A v*(Q'*(R*F)))):Calls P f args w (Ret w0 fun v=>A v*(P2*F)) :=
 (h (hs.perm (by rw [e1];ac_rfl))).mono fun e w' hr=>let ⟨v,h1,h2⟩:=hr; ⟨v,h1,h2.perm (by rw [e2];ac_rfl)⟩
theorem zmh (e1:P1=Q*R) (e2:P2=Q'*R) (hs:Sat w0 w (P1*F)) (h:Sat w0 w (Q*(R*F))→Calls P f args w (Ret w0 fun _=>Q'*(R*F))):Calls P f args w (Ret w0 fun _=>P2*F) :=
 (h (hs.perm (by rw [e1];ac_rfl))).mono fun e w' hr=>let ⟨v,h1,h2⟩:=hr; ⟨v,h1,h2.perm (by rw [e2];ac_rfl)⟩
end
section
variable (b:Nat) (x:Fx) (c:Cf) (K:Kn) (w0 w:World) (F:HP) (hs:Sat w0 w (knP b x c K*F))
include hs
theorem z6q (hS:SOk K.S) (id:Int):Calls Tryz.prog 108 #[.pointer (some ⟨b,2,none⟩),.int .i64 id] w (zp w0 (.bool (decide (has K.S id))) (knP b x c (K.wS (z33 id K.S))*F)) :=
 let ⟨_,h⟩:=zme b x c K;z59 (h K.S) (h _) hs fun hs=>zeO b 2 K.S id w0 w _ hs hS
theorem zdV (hS:SOk K.S) (id t:Int):Calls Tryz.prog 42 #[.pointer (some ⟨b,2,none⟩),.int .i64 id,.int .i64 t] w (zp w0 (.int .i64 (znD K.S id t)) (knP b x c (K.wS (z5B K.S id t))*F)) :=
 let ⟨_,h⟩:=zme b x c K;z59 (h K.S) (h _) hs fun hs=>zj5 b 2 K.S id t w0 w _ hs hS
theorem zko (hS:SOk K.S):Calls Tryz.prog 70 #[.pointer (some ⟨b,2,none⟩)] w (Ret w0 fun v=>z5 .i64 v (z2H K.S)*(knP b x c (K.wS (z2X K.S))*F)) :=
 let ⟨_,h⟩:=zme b x c K;z69 (h K.S) (h _) hs fun hs=>zjR b 2 K.S w0 w _ hs hS
theorem zm7 (hS:SOk K.S) (id:Int):Calls Tryz.prog 161 #[.pointer (some ⟨b,2,none⟩),.int .i64 id] w (zp w0 (.int .i64 (z1M K.S id)) (knP b x c K*F)) :=
 let ⟨_,h⟩:=zme b x c K;z59 (h K.S) (h K.S) hs fun hs=>za0 b 2 K.S id w0 w _ hs hS
theorem zm6 (hS:SOk K.S):Calls Tryz.prog 54 #[.pointer (some ⟨b,2,none⟩)] w (Ret w0 fun v=>z7 v K.S*(knP b x c K*F)) :=
 let ⟨_,h⟩:=zme b x c K;z69 (h K.S) (h K.S) hs fun hs=>z9Z b 2 K.S w0 w _ hs hS
theorem zfp (t l:Nat) (ht:t<64) (hl:l<32):Calls Tryz.prog 87 #[.pointer (some ⟨b,260,none⟩),.int .i64 t,.int .i64 l] w (Ret w0 fun _=>knP b x c (K.wR (z9N K.R t l))*F) :=
 let ⟨_,h⟩:=zkp b x c K;zmh (h K.R) (h _) hs fun hs=>(zig b 260 K.R t l w0 w _ hs ht hl).mono fun e w' h=>⟨_,h.1,h.2⟩
theorem zd2 (t:Nat) (ht:t<64):Calls Tryz.prog 119 #[.pointer (some ⟨b,260,none⟩),.int .i64 t] w (zp w0 (.bool (z1H K.R t).isSome) (knP b x c (K.wR (z5F K.R t))*F)) :=
 let ⟨_,h⟩:=zkp b x c K;z59 (h K.R) (h _) hs fun hs=>zcd b 260 K.R t w0 w _ hs ht
theorem zkj (t:Nat) (ht:t<64):Calls Tryz.prog 128 #[.pointer (some ⟨b,260,none⟩),.int .i64 t] w (zp w0 (.bool (z1H K.R t).isSome) (knP b x c (K.wR (z6e K.R t))*F)) :=
 let ⟨_,h⟩:=zkp b x c K;z59 (h K.R) (h _) hs fun hs=>zge b 260 K.R t w0 w _ hs ht
theorem zki (t l:Nat) (ht:t<64) (hl:l<32):Calls Tryz.prog 151 #[.pointer (some ⟨b,260,none⟩),.int .i64 t,.int .i64 l] w (zp w0 (.bool (decide (z1H K.R t≠none∧z1H K.R t≠some l))) (knP b x c (K.wR (z6b K.R t l))*F)) :=
 let ⟨_,h⟩:=zkp b x c K;z59 (h K.R) (h _) hs fun hs=>zgd b 260 K.R t l w0 w _ hs ht hl
theorem zfo (e:z0h K.R=none):Calls Tryz.prog 100 #[.pointer (some ⟨b,260,none⟩)] w (zp w0 (.tuple #[.int .i64 0,.bool false]) (knP b x c K*F)) :=
 let ⟨_,h⟩:=zkp b x c K;z59 (h K.R) (h K.R) hs fun hs=>z7u b 260 K.R e w0 w _ hs
theorem z1G (t:Nat) (e:z0h K.R=some t) (hT:Tab w0):Calls Tryz.prog 100 #[.pointer (some ⟨b,260,none⟩)] w (zp w0 (.tuple #[.int .i64 t,.bool true]) (knP b x c K*F)) :=
 let ⟨_,h⟩:=zkp b x c K;z59 (h K.R) (h K.R) hs fun hs=>z7v b 260 K.R t e w0 w _ hs hT
theorem z43 (hL:Fit K.L):Calls Tryz.prog 93 #[.pointer (some ⟨x.lk,0,none⟩)] w (Ret w0 fun v=>z5 .i64 v K.L.now*(knP b x c K*F)) :=
 let ⟨_,h⟩:=zll b x c K;z69 (h K.L) (h K.L) hs fun hs=>zhG x.lk K.L w0 w _ hs hL
theorem zm8 (hL:Fit K.L) (t:Int):Calls Tryz.prog 120 #[.pointer (some ⟨x.lk,0,none⟩),.int .i64 t] w (Ret w0 fun v=>z5 .i64 v (z1O K.L t)*(knP b x c K*F)) :=
 let ⟨_,h⟩:=zll b x c K;z69 (h K.L) (h K.L) hs fun hs=>zmi x.lk K.L t w0 w _ hs hL
theorem zkg (hL:Fit K.L) (m:Int):Calls Tryz.prog 56 #[.pointer (some ⟨x.lk,0,none⟩),.int .i64 m] w (zp w0 (.int .i64 (z1D K.L m)) (knP b x c K*F)) :=
 let ⟨_,h⟩:=zll b x c K;z59 (h K.L) (h K.L) hs fun hs=>zkv x.lk K.L m w0 w _ hs hL
theorem zfw (hL:Fit K.L) (m:Int):Calls Tryz.prog 57 #[.pointer (some ⟨x.lk,0,none⟩),.int .i64 m] w (Ret w0 fun v=>z5 .i64 v (z2j K.L m)*(knP b x c K*F)) :=
 let ⟨_,h⟩:=zll b x c K;z69 (h K.L) (h K.L) hs fun hs=>zfF x.lk K.L m w0 w _ hs hL
theorem zmb (hL:Good K.L) (t m:Int):Calls Tryz.prog 152 #[.pointer (some ⟨x.lk,0,none⟩),.int .i64 t,.int .i64 m] w (zp w0 (.tuple #[.bool (z0f K.L t m).1,.int .i64 (z0f K.L t m).2.1]) (knP b x c (K.wL (z1B K.L t m))*F)):=by
 obtain ⟨_,h⟩:=zll b x c K;refine z59 (h K.L) (h _) hs fun hs=>(zmj x.lk K.L t m w0 w _ hs hL).mono ?_;rintro e w' ⟨h1,now',h2,h3⟩;refine ⟨h1,?_⟩;have e1:now'=z4U (z0f K.L t m).2.2.own (z0f K.L t m).2.2.ow (z0f K.L t m).2.2.rows:=z4H h2;unfold z1B;rw [← e1];exact h3
theorem zd4 (hL:Good K.L) (t m:Int):Calls Tryz.prog 121 #[.pointer (some ⟨x.lk,0,none⟩),.int .i64 t,.int .i64 m] w (zp w0 (.tuple #[.int .i64 (zi K.L t m).1,.int .i64 (zi K.L t m).2.1]) (knP b x c (K.wL (zE K.L t m))*F)):=by
 obtain ⟨_,h⟩:=zll b x c K;refine z59 (h K.L) (h _) hs fun hs=>(zhH x.lk K.L t m w0 w _ hs hL).mono ?_;rintro e w' ⟨h1,now',h2,h3⟩;refine ⟨h1,?_⟩;have e1:now'=z4U (zi K.L t m).2.2.own (zi K.L t m).2.2.ow (zi K.L t m).2.2.rows:=z4H h2;unfold zE;rw [← e1];exact h3
theorem z4L:Calls Tryz.prog 51 #[.pointer (some ⟨x.ln,0,none⟩)] w (zp w0 (.int .i64 K.ln.active) (knP b x c K*F)) :=
 let ⟨_,h⟩:=zaz b x c K;z59 (h K.ln) (h K.ln) hs fun hs=>zhJ x.ln K.ln w0 w _ hs
theorem zdT:Calls Tryz.prog 52 #[.pointer (some ⟨x.ln,0,none⟩)] w (zp w0 (.int .u32 K.ln.pending) (knP b x c K*F)) :=
 let ⟨_,h⟩:=zaz b x c K;z59 (h K.ln) (h K.ln) hs fun hs=>zfG x.ln K.ln w0 w _ hs
theorem zkc:Calls Tryz.prog 53 #[.pointer (some ⟨x.ln,0,none⟩)] w (zp w0 (.int .u32 K.ln.mask) (knP b x c K*F)) :=
 let ⟨_,h⟩:=zaz b x c K;z59 (h K.ln) (h K.ln) hs fun hs=>zmm x.ln K.ln w0 w _ hs
theorem z91:Calls Tryz.prog 98 #[.pointer (some ⟨x.ln,0,none⟩)] w (Ret w0 fun _=>knP b x c (K.wLn K.ln.leave)*F) :=
 let ⟨_,h⟩:=zaz b x c K;zmh (h K.ln) (h _) hs fun hs=>zkz x.ln K.ln w0 w _ hs
theorem zma (hl:zgY K.ln) (y:Nat) (hy:y<4294967296):Calls Tryz.prog 114 #[.pointer (some ⟨x.ln,0,none⟩),.int .u32 y] w (zp w0 (.tuple #[]) (knP b x c (K.wLn (K.ln.let_ y))*F)) :=
 let ⟨_,h⟩:=zaz b x c K;z59 (h K.ln) (h _) hs fun hs=>znu x.ln K.ln y w0 w _ hs hl hy
theorem zm9 (hl:zgY K.ln) (n:Nat) (hn:n<16):Calls Tryz.prog 97 #[.pointer (some ⟨x.ln,0,none⟩),.int .i64 n] w (zp w0 (.tuple #[]) (knP b x c (K.wLn (K.ln.bar n))*F)) :=
 let ⟨_,h⟩:=zaz b x c K;z59 (h K.ln) (h _) hs fun hs=>znt x.ln K.ln n w0 w _ hs hl hn
theorem zhy (hl:zgY K.ln) (y:Nat) (hy:y<4294967296):Calls Tryz.prog 76 #[.pointer (some ⟨x.ln,0,none⟩),.int .u32 y] w (zp w0 (.tuple #[.int .u32 (y &&& K.ln.all:Nat),.int .u32 ((y &&& K.ln.all) &&& K.ln.pending:Nat)]) (knP b x c (K.wLn (K.ln.raise y))*F)) :=
 let ⟨_,h⟩:=zaz b x c K;z59 (h K.ln) (h _) hs fun hs=>zkA x.ln K.ln y w0 w _ hs hl hy
theorem zhx (hl:zgY K.ln) (hT:Tab w0):Calls Tryz.prog 78 #[.pointer (some ⟨x.ln,0,none⟩)] w (zp w0 (.tuple #[.int .i64 (if K.ln.ready then K.ln.enter.active else 0),.bool K.ln.ready]) (knP b x c (K.wLn K.ln.enter)*F)) :=
 let ⟨_,h⟩:=zaz b x c K;z59 (h K.ln) (h _) hs fun hs=>zky x.ln K.ln w0 w _ hs hl hT
end
theorem z6o {c:Cf} {K:Kn} (h:Inv c K):zgY K.ln:=by
 have hn:=h.cf.nl;have hp:2^c.ls.length≤2^16:=Nat.pow_le_pow_right (by decide) hn;have:=h.pnd;have:=h.msk;have e:=h.all;exact ⟨by rw [e];omega,by omega,by omega⟩
theorem z49 {b:Nat} {x:Fx} {c:Cf} {K:Kn} {s:Nat} (h:s<c.sems.length):∃ R, ∀ m,knP b x c (K.wSm (upd K.sm s m))=z3f (x.sb s) m.1 m.2*R:=by
 obtain ⟨R,h1⟩:=zjg (b:=b) (x:=x) (K:=K) h;exact ⟨pts x.sa.b (x.sa.o+s) [.pointer (some ⟨x.sb s,0,none⟩)]*R,fun m=>by rw [h1];unfold zn2;ac_rfl⟩
theorem z1Q {b:Nat} {x:Fx} {c:Cf} {K:Kn} {s:Nat} (h:s<c.queues.length):∃ R, ∀ q,knP b x c (K.wMl (upd K.ml s q))=mqP (x.qb s) q*R:=by
 obtain ⟨R,h1⟩:=zfy (b:=b) (x:=x) (K:=K) h;exact ⟨pts x.qa.b (x.qa.o+s) [.pointer (some ⟨x.qb s,0,none⟩)]*R,fun q=>by rw [h1];unfold zhP;ac_rfl⟩
section
variable (b:Nat) (x:Fx) (c:Cf) (K:Kn) (w0 w:World) (F:HP) (hs:Sat w0 w (knP b x c K*F)) (s:Nat)
include hs
theorem zkn (h:s<c.sems.length) (ok:z1L (K.sm s).1 (K.sm s).2):Calls Tryz.prog 153 #[.pointer (some ⟨x.sb s,0,none⟩)] w (zp w0 (.int .i64 (z3t (K.sm s).1)) (knP b x c (K.wSm (upd K.sm s (z2W (K.sm s).1,(K.sm s).2)))*F)) :=
 let ⟨_,e⟩:=z49 (b:=b) (x:=x) (K:=K) h;z59 ((z2C b x c K s).symm.trans (e (K.sm s))) (e _) hs fun hs=>zgw (x.sb s) _ _ w0 w _ hs ok
theorem zhB (h:s<c.sems.length) (ok:z1L (K.sm s).1 (K.sm s).2) (t:Int):Calls Tryz.prog 154 #[.pointer (some ⟨x.sb s,0,none⟩),.int .i64 t] w (zp w0 (.int .i64 (awaitE (K.sm s).1 (K.sm s).2 t)) (knP b x c (K.wSm (upd K.sm s ((K.sm s).1,z4f (K.sm s).1 (K.sm s).2 t)))*F)) :=
 let ⟨_,e⟩:=z49 (b:=b) (x:=x) (K:=K) h;z59 ((z2C b x c K s).symm.trans (e (K.sm s))) (e _) hs fun hs=>zem (x.sb s) _ _ t w0 w _ hs ok
theorem zkm (h:s<c.sems.length) (ok:z1L (K.sm s).1 (K.sm s).2) (lv:Value) (levels:List Int) (hlv:RdN .i64 w lv levels):Calls Tryz.prog 92 #[.pointer (some ⟨x.sb s,0,none⟩),lv] w (zp w0 (.tuple #[.int .i64 (z7s levels (K.sm s).2),.int .i64 (Go.Proofs.YtgiiidminlhbpaaGreatDoor.postE (K.sm s).1 (K.sm s).2)]) (knP b x c (K.wSm (upd K.sm s (z1Z (K.sm s).1 (K.sm s).2,z2I levels (K.sm s).2)))*F)) :=
 let ⟨_,e⟩:=z49 (b:=b) (x:=x) (K:=K) h;z59 ((z2C b x c K s).symm.trans (e (K.sm s))) (e _) hs fun hs=>zgv (x.sb s) _ _ lv levels w0 w _ hs hlv ok
theorem zfq (h:s<c.sems.length) (ok:z1L (K.sm s).1 (K.sm s).2) (t:Int):Calls Tryz.prog 88 #[.pointer (some ⟨x.sb s,0,none⟩),.int .i64 t] w (zp w0 (.bool (decide (t∈(K.sm s).2))) (knP b x c (K.wSm (upd K.sm s ((K.sm s).1,(K.sm s).2.erase t)))*F)) :=
 let ⟨_,e⟩:=z49 (b:=b) (x:=x) (K:=K) h;z59 ((z2C b x c K s).symm.trans (e (K.sm s))) (e _) hs fun hs=>zcj (x.sb s) _ _ t w0 w _ hs ok
theorem z99 (h:s<c.sems.length):Calls Tryz.prog 58 #[.pointer (some ⟨x.sb s,0,none⟩)] w (zp w0 (.int .i64 (K.sm s).1) (knP b x c K*F)):=by
 obtain ⟨_,e⟩:=z49 (b:=b) (x:=x) (K:=K) h;refine (zeo (x.sb s) _ _ w0 w _ (hs.perm (by rw [(z2C b x c K s).symm.trans (e (K.sm s))];ac_rfl:_=z3f (x.sb s) (K.sm s).1 (K.sm s).2*(_*F)))).mono ?_;rintro en w' ⟨rfl,rfl⟩;exact ⟨rfl,hs⟩
theorem zdZ (h:s<c.sems.length) (ok:z1L (K.sm s).1 (K.sm s).2):Calls Tryz.prog 59 #[.pointer (some ⟨x.sb s,0,none⟩)] w (Ret w0 fun v'=>z5 .i64 v' (K.sm s).2*(knP b x c K*F)) :=
 let ⟨_,e⟩:=z49 (b:=b) (x:=x) (K:=K) h;z69 ((z2C b x c K s).symm.trans (e (K.sm s))) ((z2C b x c K s).symm.trans (e (K.sm s))) hs fun hs=>zb4 (x.sb s) _ _ w0 w _ hs ok
theorem zfj (h:s<c.queues.length) (ok:z3Z (K.ml s)) (v:Int) (lv:Value) (levels:List Int) (hlv:RdN .i64 w lv levels):Calls Tryz.prog 142 #[.pointer (some ⟨x.qb s,0,none⟩),.int .u32 v,lv] w (zp w0 (.tuple #[.int .i64 ((K.ml s).sendT levels),.int .i64 (K.ml s).sendE]) (knP b x c (K.wMl (upd K.ml s ((K.ml s).send levels v)))*F)) :=
 let ⟨_,e⟩:=z1Q (b:=b) (x:=x) (K:=K) h;z59 ((z0I b x c K s).symm.trans (e (K.ml s))) (e _) hs fun hs=>zhU (x.qb s) _ v lv levels w0 w _ hs hlv ok
theorem zfi (h:s<c.queues.length) (ok:z3Z (K.ml s)) (lv:Value) (levels:List Int) (hst:z6E w0 F .i64 lv levels):Calls Tryz.prog 145 #[.pointer (some ⟨x.qb s,0,none⟩),lv] w (zp w0 (.tuple #[.int .u32 (K.ml s).recvV,.int .i64 ((K.ml s).recvT levels),.int .i64 (K.ml s).recvE]) (knP b x c (K.wMl (upd K.ml s ((K.ml s).recv levels)))*F)) :=
 let ⟨_,e⟩:=z1Q (b:=b) (x:=x) (K:=K) h;z59 ((z0I b x c K s).symm.trans (e (K.ml s))) (e _) hs fun hs=>zhT (x.qb s) _ lv levels w0 w _ hs (fun w h=>hst w h.drop) ok
theorem zke (h:s<c.queues.length) (ok:z3Z (K.ml s)) (t v:Int):Calls Tryz.prog 144 #[.pointer (some ⟨x.qb s,0,none⟩),.int .i64 t,.int .u32 v] w (zp w0 (.int .i64 ((K.ml s).holdE t)) (knP b x c (K.wMl (upd K.ml s ((K.ml s).hold t v)))*F)) :=
 let ⟨_,e⟩:=z1Q (b:=b) (x:=x) (K:=K) h;z59 ((z0I b x c K s).symm.trans (e (K.ml s))) (e _) hs fun hs=>zhQ (x.qb s) _ t v w0 w _ hs ok
theorem zhz (h:s<c.queues.length) (ok:z3Z (K.ml s)) (t:Int):Calls Tryz.prog 146 #[.pointer (some ⟨x.qb s,0,none⟩),.int .i64 t] w (zp w0 (.int .i64 ((K.ml s).awaitE t)) (knP b x c (K.wMl (upd K.ml s ((K.ml s).await t)))*F)) :=
 let ⟨_,e⟩:=z1Q (b:=b) (x:=x) (K:=K) h;z59 ((z0I b x c K s).symm.trans (e (K.ml s))) (e _) hs fun hs=>zfO (x.qb s) _ t w0 w _ hs ok
theorem zan (h:s<c.queues.length) (ok:z3Z (K.ml s)) (t:Int):Calls Tryz.prog 89 #[.pointer (some ⟨x.qb s,0,none⟩),.int .i64 t] w (zp w0 (.bool (decide ((K.ml s).waits t))) (knP b x c (K.wMl (upd K.ml s ((K.ml s).cancel t)))*F)) :=
 let ⟨_,e⟩:=z1Q (b:=b) (x:=x) (K:=K) h;z59 ((z0I b x c K s).symm.trans (e (K.ml s))) (e _) hs fun hs=>ze4 (x.qb s) _ t w0 w _ hs ok
end
theorem zgT (kd:Int) (h:1≤kd∧kd≤24) (w:World):Calls Tryz.prog 31 #[.int .i64 kd] w fun e w'=>e=.returned (.bool true)∧w=w':=by
 have h0:=h.1;have h1:=h.2
 go_enter Tryz.func31,Tryz.ntmps31
 go_wp2;go_ret;exact ⟨rfl,rfl⟩
theorem zj8 (f kd:Nat) (hf:f<4294967296) (hk:1≤kd∧kd≤24) (z:Bool) (hz:z1l f kd=z) (w:World):Calls Tryz.prog 91 #[.int .u32 f,.int .i64 kd] w fun e w'=>e=.returned (.bool z)∧w=w':=by
 unfold z1l at hz;rw [decide_eq_true (show 1≤kd∧kd≤24 from hk),Bool.true_and] at hz
 by_cases h:kd=24
 ·subst h;have hz:true=z:=by simpa using hz
  subst hz
  go_enter Tryz.func91,Tryz.ntmps91
  go_wp2_with fail;refine (zgT _ ⟨by omega,by omega⟩ _).mono ?_;rintro en w1 ⟨rfl,rfl⟩;go_wp2_with fail;go_ret;exact ⟨rfl,rfl⟩
 ·rw [decide_eq_false h,Bool.false_or] at hz;have e1:((kd:Int)==24)=false:=by simp;omega
  have hk1:kd≤24:=hk.2
  cases z
  ·have b1:=zcB hf hz;clear hz h
   go_enter Tryz.func91,Tryz.ntmps91
   go_wp2_with fail;refine (zgT _ ⟨by omega,by omega⟩ _).mono ?_;rintro en w1 ⟨rfl,rfl⟩;go_wp2_with fail;go_ret;exact ⟨rfl,rfl⟩
  ·have b1:=zeG hf hz;clear hz h
   go_enter Tryz.func91,Tryz.ntmps91
   go_wp2_with fail;refine (zgT _ ⟨by omega,by omega⟩ _).mono ?_;rintro en w1 ⟨rfl,rfl⟩;go_wp2_with fail;go_ret;exact ⟨rfl,rfl⟩
theorem zkt (b:Nat) (x:Fx) (c:Cf) (K:Kn):∃ R, ∀ n t,knP b x c ((K.wCycle n).wTold t)=pts b 0 [.int .u64 K.count,.int .u64 n]*(z6d b t*(pts b 518 (cfL x.c c)*R)) :=
 ⟨z21 b 2 K.S*(pts b 259 [.int .i64 c.table]*(rdP b 260 K.R*(cfH x.c c *
 (pts b 530 [.int .i64 K.run]*((ex fun v:Sh=>pts b 531 (cxL K.iat K.irg v.v)) *
 (pts b 541 (kcL x c K.reads K.stopped) *
 (zfR x c K.mems*(zbd x c (fun t=>(K.T t,K.tm t)) *
 (lkP x.lk K.L*(ziv x c K.sm*(zda x c K.ml*lnP x.ln K.ln))))))))))),fun n t=>by unfold knP;dsimp only [Kn.wCycle,Kn.wTold];ac_rfl⟩
instance (k cy co:Int) (a b v:Nat):zgX zjV [.int .i64 k,.int .u64 cy,.int .u64 co,.int .u32 a,.int .u32 b,.int .u32 v] [⟨k,cy,co,a,b,v⟩]:=⟨rfl⟩
instance (priority:=1090) {α:Type} {sz:Nat} (E:Enc α sz) (w:World) (v:Value) (l:List α) [h:RdC w E v l]:RdC w.drew E v l:=⟨h.rd⟩
theorem zbg {w0 w:World} {F:HP} {b:Nat} {l:List Ev} (hs:Sat w0 w (z6d b l*F)):∃ a cap,Sat w0 w (pts b 549 [.slice a l.length cap]*(z7 (.slice a l.length cap) l*F)):=by
 obtain ⟨v,hs⟩:=hs.ex_out;obtain ⟨a,cap,rfl⟩:=(hs.pull (Q:=z7 v l)).recs_form;exact ⟨a,cap,hs.perm (by ac_rfl)⟩
theorem z6A {w0 w:World} {F:HP} {b:Nat} {l:List Ev} {v:Value} (hs:Sat w0 w (pts b 549 [v]*(z7 v l*F))):Sat w0 w (z6d b l*F) :=
 Sat.ex_in (f:=fun v=>pts b 549 [v]*z7 v l) v (hs.perm (by ac_rfl))
theorem zN (b:Nat) (x:Fx) (c:Cf) (K:Kn) (kd:Nat) (kI:Int) (hkI:kI=kd) (a b' v:Int) (w0 w:World) (F:HP) (hs:Sat w0 w (knP b x c K*F)) (cf:z7T c) (hk:1≤kd∧kd≤24) (ha:zG a) (hb:zG b') (hv:zG v) (hl:K.told.length≤100000) :
  Calls Tryz.prog 73 #[.pointer (some ⟨b,0,none⟩),.int .i64 kI,.int .i64 a,.int .i64 b',.int .u32 v] w (zp w0 (.tuple #[]) (knP b x c (K.tell c kd a b' v)*F)):=by
 obtain ⟨a,rfl⟩:=Int.eq_ofNat_of_zero_le ha.1;obtain ⟨b',rfl⟩:=Int.eq_ofNat_of_zero_le hb.1;obtain ⟨v,rfl⟩:=Int.eq_ofNat_of_zero_le hv.1;have ha1:(a:Int)<4294967296:=ha.2;have hb1:(b':Int)<4294967296:=hb.2;have hv1:(v:Int)<4294967296:=hv.2;obtain ⟨g,hch⟩:=Int.eq_ofNat_of_zero_le cf.charge.1;have hg:g≤64:=by have:=cf.charge.2;omega
 obtain ⟨R,h⟩:=zkt b x c K;have H:=hid h;have e0:knP b x c K=pts b 0 [.int .u64 K.count,.int .u64 K.cycle]*(z6d b K.told*(pts b 518 (cfL x.c c)*R)):=h K.cycle K.told;rw [e0] at hs;have hs1:Sat w0 w (z6d b K.told*(pts b 0 [.int .u64 K.count,.int .u64 K.cycle]*(pts b 518 (cfL x.c c)*(R*F)))):=hs.perm (by ac_rfl);obtain ⟨sa,sc,hs2⟩:=zbg hs1;have hff:=cf.filter;have hP:=hid (fun z hz w=>zj8 c.filter kd hff hk z hz w);clear hs hs1 h e0 ha hb hv hff;subst hkI;have ua:IntKind.u32.wrap (a:Int)=a:=by rw [IntKind.wrap_u32];exact Int.emod_eq_of_lt (by omega) ha1
 have ub:IntKind.u32.wrap (b':Int)=b':=by rw [IntKind.wrap_u32];exact Int.emod_eq_of_lt (by omega) hb1
 cases hz:z1l c.filter kd
 ·have e1:K.tell c kd a b' v=K:=by unfold Kn.tell;rw [if_neg (by rw [hz];decide)]
  rw [e1];have Hz:=hid hz;clear hz
  go_enter Tryz.func73,Tryz.ntmps73
  go_wp2_with fail;refine (hP.out false Hz.out _).mono ?_;rintro en w1 ⟨rfl,rfl⟩;go_wp2_with fail
  go_end0
  refine ⟨rfl,?_⟩;have e2:knP b x c K=pts b 0 [.int .u64 K.count,.int .u64 K.cycle]*(z6d b K.told*(pts b 518 (cfL x.c c)*R)):=H.out K.cycle K.told;rw [e2];exact (z6A hs2).perm (by ac_rfl)
 ·have e1:K.tell c kd a b' v=(K.wCycle ((K.cycle+c.charge)%18446744073709551616)).wTold (K.told++[⟨kd,K.cycle,K.count,a,b',v⟩]):=by unfold Kn.tell;rw [if_pos hz];rfl
  rw [e1];have e2:=H.out ((K.cycle+c.charge)%18446744073709551616) (K.told++[⟨kd,K.cycle,K.count,a,b',v⟩]);rw [e2];have Hz:=hid hz;clear hz e1 e2;rw [hch]
  go_enter Tryz.func73,Tryz.ntmps73
  go_wp2_with fail;refine (hP.out true Hz.out _).mono ?_;rintro en w1 ⟨rfl,rfl⟩;go_wp2_with fail;refine z9 (w0:=w0) ?_;intro wx hsx;refine zw (fun w'=>Sat w0 w' (pts b 549 [.slice sa K.told.length sc]*(pts b 0 [.int .u64 K.count,.int .u64 K.cycle]*any))) 26 [(0,0),(1,0),(2,0),(3,0),(4,1),(5,0),(6,0),(7,0),(8,0),(9,0),(10,1),(11,0),(12,0),(13,0),(14,0),(15,1),(16,0),(17,0),(18,0),(19,0),(20,0),(21,0),(22,2),(23,2),(24,0),(25,0),(26,2)] (by kernel_rfl) (by kernel_rfl) (fun _ _ _ _ h=>h) zk ?_
  iterate 22 (first | refine zt1 ?_ | refine zt3 ?_ | refine zt0 ?_ | refine zt2 ?_)
  refine zpN rfl (by rfl) (fun K hK=>?_);go_wp2_with fail;refine ⟨fun _=>zk,?_⟩;refine zpN rfl (by rfl) (fun K hK=>?_);refine z2J rfl rfl rfl (by omega) ?_;intro ap ac aL aw ahL ah1 ah2 ahs _;refine hK _ _ ⟨fun _=>zk,?_⟩;clear hK K;simp only [Act.put,zqA,zqP,zqQ]
  iterate 2 (first | refine zt1 ?_ | refine zt3 ?_ | refine zt0 ?_ | refine zt2 ?_)
  refine zpN rfl (by rfl) (fun K hK=>?_);go_wp2_with fail;refine ⟨fun h=>absurd rfl h,z0b ?_⟩;go_wp2_with fail;clear hs2 hsx;refine z9 (w0:=w0) ?_;intro wx hsx;go_still_tail 15,(by kernel_rfl);change wpList _ _ _ _ _ wx.drew;go_wp2_with fail
  go_end0
  refine ⟨rfl,?_⟩;unfold Hid at ahL;subst ahL;rw [IntKind.wrap_u64];clear ahs;generalize K.told++[({ k:=(kd:Int),cy:=K.cycle,co:=K.count,a:=a,b:=b',v:=v }:Ev)]=L at hsx ⊢;refine Sat.perm (P:=z6d b L*(pts b 0 [.int .u64 K.count,.int .u64 ((K.cycle+(g:Int))%18446744073709551616)]*(pts b 518 (cfL x.c c)*(R*F)))) ?_ (by ac_rfl);exact z6A (v:=.slice ap L.length ac) z3
theorem zaw (b:Nat) (x:Fx) (c:Cf) (K:Kn) (w0 w:World) (F:HP) (hs:Sat w0 w (knP b x c K*F)) :
  Calls Tryz.prog 75 #[.pointer (some ⟨b,0,none⟩)] w (Ret w0 fun v=>z7 v K.told*(knP b x c K.take*F)):=by
 obtain ⟨R,h⟩:=zku b x c K;have H:=hid h;rw [show knP b x c K=z6d b K.told*R from h K.told] at hs;obtain ⟨sa,sc,hs2⟩:=zbg (hs.perm (zb _ _ _));clear hs h
 go_enter Tryz.func75,Tryz.ntmps75
 go_wp2_with fail;go_ret;refine ⟨_,rfl,?_⟩;refine Sat.perm (P:=z6d b []*(z7 (.slice sa K.told.length sc) K.told*(R*F))) ?_ (by rw [show knP b x c K.take=z6d b []*R from H.out []];ac_rfl);refine z6A (v:=.slice none 0 0) ?_;refine Sat.perm (P:=z7 (α:=Ev) (.slice none 0 0) []*(pts b 549 [.slice none 0 0]*(z7 (.slice sa K.told.length sc) K.told*(R*F)))) (Sat.slice_nil 6 ?_) (by ac_rfl);exact z3
theorem z8l (b:Nat) (x:Fx) (c:Cf) (K:Kn) (w0 w:World) (F:HP) (hs:Sat w0 w (knP b x c K*F)) (hS:SOk K.S) (z:Bool) (hz:K.noRoom c=z) :
  Calls Tryz.prog 147 #[.pointer (some ⟨b,2,none⟩)] w (zp w0 (.bool z) (knP b x c K*F)):=by
 have hF:=hid (fun w G hs=>zm7 b x c K w0 w G hs hS 64);have Hz:=hid hz;clear hS hz
 go_enter Tryz.func147,Tryz.ntmps147
 go_wp2_with fail;refine zj (fun w'=>Sat w0 w' (knP b x c K*any)) [(0,true),(1,true),(2,true),(4,true),(5,true),(6,true),(7,true),(3,false),(8,true),(9,true)] (by kernel_rfl) (by kernel_rfl) (fun _ _ _ _ h=>h) zq ?_
 iterate 7 (first | refine zsR ?_ | refine zsQ ?_)
 refine z29 rfl (by rfl) (fun K hK=>?_);go_wp2_with fail;refine (hF.out _ _ own).mono ?_;rintro en w1 ⟨rfl,hs1⟩;go_wp2_with fail;refine ⟨zq,?_⟩
 iterate 2 (first | refine zsR ?_ | refine zsQ ?_)
 refine zB ?_;go_wp2_with fail;go_ret;exact ⟨zgn (by rw [← Hz.out];rfl),hs1⟩
@[go_sem] theorem zni (i:Ins):z22 i=.agg #[.int .i64 i.op,.int .i64 i.a,.int .i64 i.b,.int .i64 i.c,.int .i64 i.d,.int .u32 i.k]:=rfl
@[go_sem] theorem zk1 (op a b c d k:Int) (w:World):Sem.run Tryz.prog (Instr.field 73 (.agg #[.int .i64 op,.int .i64 a,.int .i64 b,.int .i64 c,.int .i64 d,.int .u32 k]) 1) w=.ok (.int .i64 a) w:=by kernel_rfl
@[go_sem] theorem zk2 (op a b c d k:Int) (w:World):Sem.run Tryz.prog (Instr.field 73 (.agg #[.int .i64 op,.int .i64 a,.int .i64 b,.int .i64 c,.int .i64 d,.int .u32 k]) 2) w=.ok (.int .i64 b) w:=by kernel_rfl
theorem zlS (n:Int) (h:-9223372036854775808≤n∧n≤9223372036854775807):IntKind.i64.wrap n=n:=by simp [IntKind.wrap,IntKind.signed,IntKind.bits];omega
theorem zfh (b:Nat) (x:Fx) (c:Cf) (K:Kn) (t:Nat) (w0 w:World) (F:HP) (hs:Sat w0 w (knP b x c K*F)) (cf:z7T c) (ht:t<c.ts.length) (h1:1≤(K.T t).at_) (h2:(K.T t).at_≤(tcg c t).code.length) :
  Calls Tryz.prog 109 #[.pointer (some ⟨b,0,none⟩),.int .i64 t] w (zp w0 (z22 (K.call c t)) (knP b x c K*F)):=by
 have hcl:=(cf.t t ht).2.2.2.2.2;obtain ⟨n,hn⟩:=Int.eq_ofNat_of_zero_le (show 0≤(K.T t).at_-1 by omega);have hat:(K.T t).at_=(n:Int)+1:=by omega
 have hlt:n<(tcg c t).code.length:=by omega
 have hcall:K.call c t=zM (tcg c t).code n:=by unfold Kn.call;rw [hn]
 rw [hcall];have hnt:=cf.nt;haveI:Lt t c.ts.length:=⟨ht⟩;haveI:Lt n (tcg c t).code.length:=⟨hlt⟩;have a1:=x.ta.ad_pos (show 0<c.ts.length by omega);have a2:=x.c.ct.ad_pos (show 0<c.ts.length by omega);have a3:=(x.c.tv t).ad_pos (show 0<(tcg c t).code.length by omega);have i1:(t:Int)<(c.ts.length:Int):=by omega
 have i2:(n:Int)<((tcg c t).code.length:Int):=by omega
 have d1:decide (t<c.ts.length)=true:=decide_eq_true ht;have d2:decide (n<(tcg c t).code.length)=true:=decide_eq_true hlt;have w1:IntKind.i64.wrap (n:Int)=n:=zlS _ ⟨by omega,by omega⟩;clear hcall hn h1 h2 cf
 go_enter Tryz.func109,Tryz.ntmps109
 go_wp2_with fail;refine z9 (w0:=w0) ?_;intro wx hsx;go_still_tail 21,(by kernel_rfl);change wpList _ _ _ _ _ wx.drew;go_wp2_with fail;go_returns;exact ⟨rfl,z3⟩
theorem zgp {e:Int} (h:0≤e∧e≤16):zG e:=⟨h.1,by omega⟩
theorem zV (b:Nat) (x:Fx) (c:Cf) (K:Kn) (who cb co:Nat) (hcx:z4b b x c cb co who) (i:Ins) (hi:zI i) (e:Int) (he:0≤e∧e≤16) (w0 w:World) (F:HP) (hs:Sat w0 w (knP b x c K*F)) (cf:z7T c) (hw:who<80) (hl:K.told.length≤100000) :
  Calls Tryz.prog 115 #[.pointer (some ⟨b,0,none⟩),.int .i64 who,.pointer (some ⟨cb,co,none⟩),z22 i,.int .i64 e] w (zp w0 (.tuple #[]) (knP b x c (K.refuse c who i e)*F)):=by
 have hT:=hid (fun (kI:Int) (v:Int) (hk:kI=23) (hv:v=i.op) (w:World) (G:HP) (hs:Sat w0 w (knP b x c K*G))=>zN b x c K 23 kI hk who e v w0 w G hs cf (by decide) ⟨by omega,by omega⟩ (zgp he) (by rw [hv];have:=hi.op;exact ⟨by omega,by omega⟩) hl);obtain ⟨op,a,b',c',d,k⟩:=i;obtain ⟨a,rfl⟩:=Int.eq_ofNat_of_zero_le hi.a.1;haveI:Lt a 8:=⟨by have:=hi.a.2;have:(a:Int)<8:=this;omega⟩;have d1:decide (a<8)=true:=decide_eq_true (by have:=hi.a.2;have:(a:Int)<8:=this;omega);have i1:(a:Int)<8:=hi.a.2;have hop1:1≤op:=hi.op.1;have hop2:op≤38:=hi.op.2;have he0:0≤e:=he.1;have he1:e≤16:=he.2;have ue:IntKind.u32.wrap e=e:=by rw [IntKind.wrap_u32];exact Int.emod_eq_of_lt he0 (by omega)
 have uo:IntKind.u32.wrap op=op:=by rw [IntKind.wrap_u32];exact Int.emod_eq_of_lt (by omega) (by omega)
 clear hi he cf;have hR:K.refuse c who ⟨op,a,b',c',d,k⟩ e=(K.tell c 23 who e op).put who a e:=rfl;rw [hR];clear hR
 go_enter Tryz.func115,Tryz.ntmps115
 go_wp2_with fail;refine (hT.out _ _ rfl rfl _ _ own).mono ?_;rintro en w1 ⟨rfl,hs1⟩;clear hs;go_wp2_with fail;refine z9 (w0:=w0) ?_;intro wx hsx;go_still_tail 8,(by kernel_rfl);change wpList _ _ _ _ _ wx.drew;go_wp2_with fail
 go_end0
 exact ⟨rfl,z3⟩
attribute [go_sem] z01 z3V zgF zbe z5M z5L zld zle zgG ziI ziG ziH zer zc
structure z4A (c:Cf) (K:Kn) (t:Nat):Prop where
 cf:z7T c
 S:SOk K.S
 lt:t<c.ts.length
 at1:1≤(K.T t).at_
 at2:(K.T t).at_≤(tcg c t).code.length
 lev:0≤(K.T t).lev∧(K.T t).lev<32
 a:0≤(K.call c t).a∧(K.call c t).a<8
theorem zlg {c:Cf} {K:Kn} {t:Nat} {why a:Int} {na lv:Nat} (h1:(K.call c t).a=na) (h2:(K.T t).lev=lv) :
  K.wake c t why a=((((((K.wS (z33 (64+t) K.S)).wReg t na a).wSt t 1).wOn t 0).tell c 10 t why 0).wR (z9N (((((K.wS (z33 (64+t) K.S)).wReg t na a).wSt t 1).wOn t 0).tell c 10 t why 0).R t lv)):=by
 have e:((((K.wS (z33 (64+t) K.S)).wReg t na a).wSt t 1).wOn t 0)={ K with S:=z33 (64+t) K.S }.setT t { K.T t with rg:=(K.T t).rg.set na a,st:=1,on:=0 }:=by
  unfold Kn.wReg Kn.wSt Kn.wOn;simp only [z2V,z8]
  rfl
 rw [e];unfold Kn.wake;rw [h1,h2,Int.toNat_natCast,Int.toNat_natCast]
 rfl
theorem zax (b:Nat) (x:Fx) (c:Cf) (K:Kn) (t:Nat) (o:z4A c K t) (why a:Int) (hwhy:why=0∨why=1) (ha:0≤a∧a≤16) (w0 w:World) (F:HP) (hs:Sat w0 w (knP b x c K*F)) (hl:K.told.length≤100000) :
  Calls Tryz.prog 90 #[.pointer (some ⟨b,0,none⟩),.int .i64 t,.int .i64 why,.int .i64 a] w (zp w0 (.tuple #[]) (knP b x c (K.wake c t why a)*F)):=by
 obtain ⟨cf,hS,ht,h1,h2,h3,h4⟩:=o;have hnt:=cf.nt;obtain ⟨na,hna⟩:=Int.eq_ofNat_of_zero_le h4.1;obtain ⟨lv,hlv⟩:=Int.eq_ofNat_of_zero_le h3.1;have hlv32:lv<32:=by omega
 haveI:Lt na 8:=⟨by omega⟩;haveI:Lt t c.ts.length:=⟨ht⟩;have a1:=x.ta.ad_pos (show 0<c.ts.length by omega);have i1:(t:Int)<(c.ts.length:Int):=by omega
 have i2:(na:Int)<8:=by omega
 have d1:decide (t<c.ts.length)=true:=decide_eq_true ht;have d2:decide (na<8)=true:=decide_eq_true (by omega);have ua:IntKind.u32.wrap a=a:=by rw [IntKind.wrap_u32];exact Int.emod_eq_of_lt ha.1 (by omega)
 have hC:=hid (fun w G hs=>z6q b x c K w0 w G hs hS (64+t));have hCall:=hid (fun (w:World) (G:HP) (hs:Sat w0 w (knP b x c (K.wS (z33 (64+t) K.S))*G))=>zfh b x c (K.wS (z33 (64+t) K.S)) t w0 w G hs cf ht h1 h2);have hna:((K.wS (z33 (64+t) K.S)).call c t).a=na:=hna;have hTell:=hid (fun (K':Kn) (hl:K'.told.length≤100000) (kI:Int) (hk:kI=10) (w:World) (G:HP) (hs:Sat w0 w (knP b x c K'*G))=>zN b x c K' 10 kI hk t why 0 w0 w G hs cf (by decide) ⟨by omega,by omega⟩ (by rcases hwhy with rfl | rfl<;>exact ⟨by decide,by decide⟩) ⟨by decide,by decide⟩ hl);have Hl:=hid hl;have Ha:=hid ha;clear cf hS h1 h2 h3 h4 hl ha hwhy
 go_enter Tryz.func90,Tryz.ntmps90
 go_wp2_with fail;refine (hC.out _ _ own).mono ?_;rintro en w1 ⟨rfl,hs1⟩;clear hs;go_wp2_with fail;refine z9 (w0:=w0) ?_;intro wx hsx;refine zj (fun _=>True) [(0,true),(1,true),(2,true),(5,true),(6,true),(7,true),(8,true),(9,true),(3,false),(4,true),(10,true),(11,false)] (by kernel_rfl) (by kernel_rfl) (fun _ _ _ _ h=>h) trivial ?_
 iterate 8 (first | refine zsR ?_ | refine zsQ ?_)
 refine z29 rfl (by rfl) (fun K hK=>?_);go_wp2_with fail;refine (hCall.out _ _ z6).mono ?_;rintro en w2 ⟨rfl,hs2⟩;clear hsx hs1;go_wp2_with fail;refine ⟨trivial,?_⟩
 iterate 2 (first | refine zsR ?_ | refine zsQ ?_)
 refine z29 rfl (by rfl) (fun K hK=>?_);go_wp2_with fail;refine ⟨trivial,?_⟩;refine zB ?_;go_wp2_with fail;refine (hTell.out _ ?_ _ rfl _ _ z6).mono ?_
 ·exact Hl.out
 rintro en w3 ⟨rfl,hs3⟩;clear hs2;go_wp2_with fail;refine z9 (w0:=w0) ?_;intro wx hsx;go_still_tail 8,(by kernel_rfl);change wpList _ _ _ _ _ wx.drew;go_wp2_with fail;refine (zfp b x c _ w0 _ _ z6 t lv (by omega) hlv32).mono ?_;rintro en w4 ⟨vr,rfl,hs4⟩;clear hs3 hsx;go_wp2_with fail
 all_goals
  go_end0
  refine ⟨rfl,?_⟩;rw [zlg (K:=K) (show (K.call c t).a=na from hna) hlv];exact hs4
end Go.Proofs.YtgiiidminlhbpaaGreatDoor
namespace Go.Proofs.YtgiiidminlhbpaaGreatDoor
open Go.RowKit Go.Sx Go.Dl Go.Lk Go.Rq Go.Au
def zbn:Int→List Ev→Int→Prop
 | a,[],b=>a≤b
 | a,e::l,b=>a≤e.cy∧zbn e.cy l b
theorem zbn.le:∀ {l:List Ev} {a b:Int},zbn a l b→a≤b
 | [],_,_,h=>h
 | _::_,_,_,h=>Int.le_trans h.1 (zbn.le h.2)
theorem zbn.app:∀ {l:List Ev} {a b d:Int} {l':List Ev},zbn a l b→zbn b l' d→zbn a (l++l') d
 | [],a,b,d,[],h,k=>Int.le_trans h k
 | [],a,b,d,e::l',h,k=>⟨Int.le_trans h k.1,k.2⟩
 | e::l,a,b,d,l',h,k=>⟨h.1,zbn.app h.2 k⟩
structure zH (c:Cf) (lo n m:Nat) (K K':Kn):Prop where
 count:K'.count=K.count
 ev:∃ evs,K'.told=K.told++evs∧evs.length≤n∧(∀ e∈evs,okE e=true∧z1l c.filter e.k.toNat=true∧e.co=K.count) ∧
  (0≤K.cycle→K.cycle+n*64+m<18446744073709551616→K.cycle+lo≤K'.cycle∧K'.cycle≤K.cycle+n*64+m∧zbn K.cycle evs K'.cycle)
section
variable {c:Cf} {lo lo' n n' m m':Nat} {K K1 K2:Kn}
theorem zH.set (h1:K1.told=K.told) (h2:K1.cycle=K.cycle) (h3:K1.count=K.count):zH c 0 n m K K1 :=
 ⟨h3,[],by rw [h1];simp,Nat.zero_le _,by simp,fun h0 h=>⟨by rw [h2];simp,by rw [h2];omega,by show K.cycle≤K1.cycle;rw [h2];omega⟩⟩
theorem zH.refl:zH c 0 n m K K:=zH.set rfl rfl rfl
theorem zH.trans (h:zH c lo n m K K1) (k:zH c lo' n' m' K1 K2):zH c (lo+lo') (n+n') (m+m') K K2:=by
 obtain ⟨e1,l,a1,an,a2,a3⟩:=h;obtain ⟨e2,l',b1,bn,b2,b3⟩:=k;refine ⟨e2.trans e1,l++l',by rw [b1,a1,List.append_assoc],by rw [List.length_append];omega,fun e he=>?_,fun h0 h1=>?_⟩
 ·rcases List.mem_append.1 he with x | x
  ·exact a2 e x
  ·have:=b2 e x;rw [e1] at this;exact this
 ·obtain ⟨c1,c2,c3⟩:=a3 h0 (by omega);obtain ⟨d1,d2,d3⟩:=b3 (by omega) (by omega);exact ⟨by omega,by omega,c3.app d3⟩
theorem zH.le (h:zH c lo n m K K1) (h1:lo'≤lo) (h2:n≤n') (h3:m≤m'):zH c lo' n' m' K K1:=by
 obtain ⟨e1,l,a1,an,a2,a3⟩:=h;refine ⟨e1,l,a1,by omega,a2,fun h0 h=>?_⟩;obtain ⟨c1,c2,c3⟩:=a3 h0 (by omega);exact ⟨by omega,by omega,c3⟩
theorem zH.len (h:zH c lo n m K K1):K1.told.length≤K.told.length+n:=by
 obtain ⟨_,l,a1,an,_⟩:=h;rw [a1,List.length_append];omega
theorem zH.pre (h:zH c lo n m K1 K2) (h1:K1.told=K.told) (h2:K1.cycle=K.cycle) (h3:K1.count=K.count):zH c lo n m K K2:=by
 have:=(zH.set (c:=c) (n:=0) (m:=0) h1 h2 h3).trans h;exact this.le (by omega) (by omega) (by omega)
theorem zH.post (h:zH c lo n m K K1) (h1:K2.told=K1.told) (h2:K2.cycle=K1.cycle) (h3:K2.count=K1.count):zH c lo n m K K2:=by
 have:=h.trans (zH.set (c:=c) (n:=0) (m:=0) h1 h2 h3);exact this.le (by omega) (by omega) (by omega)
theorem zH.pl (h:zH c lo n m K1 K2) (h1:K1.told=K.told) (h2:K1.cycle=K.cycle) (h3:K1.count=K.count) (g1:lo'≤lo) (g2:n≤n') (g3:m≤m'):zH c lo' n' m' K K2:=(h.pre h1 h2 h3).le g1 g2 g3
theorem zH.ql (h:zH c lo n m K K1) (h1:K2.told=K1.told) (h2:K2.cycle=K1.cycle) (h3:K2.count=K1.count) (g1:lo'≤lo) (g2:n≤n') (g3:m≤m'):zH c lo' n' m' K K2:=(h.post h1 h2 h3).le g1 g2 g3
theorem zu (cf:z7T c) {kd:Nat} {a b v:Int} (hk:1≤kd∧kd≤24) (ok:okN kd a.toNat b.toNat v.toNat=true):zH c 0 1 0 K (K.tell c kd a b v):=by
 have hch:=cf.charge
 by_cases hp:z1l c.filter kd=true
 ·have e:K.tell c kd a b v={ K with told:=K.told++[⟨kd,K.cycle,K.count,a.toNat,b.toNat,v.toNat⟩],cycle:=(K.cycle+c.charge)%18446744073709551616 }:=by unfold Kn.tell;rw [if_pos hp]
  rw [e];refine ⟨rfl,[⟨kd,K.cycle,K.count,a.toNat,b.toNat,v.toNat⟩],rfl,Nat.le_refl _,fun e he=>?_,fun h0 h=>?_⟩
  ·rw [List.mem_singleton] at he;subst he;refine ⟨?_,hp,rfl⟩;unfold okE;show (decide (1≤(kd:Int)∧(kd:Int)≤24) && okN (kd:Int).toNat _ _ _)=true;rw [Int.toNat_natCast,ok,Bool.and_true];exact decide_eq_true ⟨by omega,by omega⟩
  ·show K.cycle+_≤(K.cycle+c.charge)%18446744073709551616∧(K.cycle+c.charge)%18446744073709551616≤_∧_;rw [Int.emod_eq_of_lt (by omega) (by omega)];exact ⟨by omega,by omega,Int.le_refl _,by show K.cycle≤K.cycle+c.charge;omega⟩
 ·have e:K.tell c kd a b v=K:=by unfold Kn.tell;rw [if_neg hp]
  rw [e];exact zH.refl
theorem z2e {x:Int} (h0:lo≤x) (h1:x≤m):zH c lo 0 m K (K.cost x):=by
 refine ⟨rfl,[],by simp [Kn.cost],Nat.zero_le _,by simp,fun g0 g=>?_⟩;show K.cycle+lo≤(K.cycle+x)%18446744073709551616∧(K.cycle+x)%18446744073709551616≤_∧K.cycle≤(K.cycle+x)%18446744073709551616;rw [Int.emod_eq_of_lt (by omega) (by omega)];omega
end
section
variable {c:Cf} {K:Kn}
theorem z1s {kd a b v:Nat} (h:win a (shp kd).1=true∧win b (shp kd).2.1=true∧win v (shp kd).2.2=true) (h5:kd≠5):okN kd a b v=true:=by
 unfold okN;rw [h.1,h.2.1,h.2.2];simp [h5]
theorem z2M (cf:z7T c) {t:Nat} (ht:t<64) {why a:Int} (hw:why=0∨why=1):zH c 0 1 0 K (K.wake c t why a):=by
 unfold Kn.wake;dsimp only;have h1:=zu (K:={ K with S:=z33 (64+t) K.S }.setT t { K.T t with rg:=(K.T t).rg.set (K.call c t).a.toNat a,st:=1,on:=0 }) cf (kd:=10) (a:=t) (b:=why) (v:=0) (by decide) (z1s ⟨?_,?_,rfl⟩ (by decide))
 ·exact (zH.pre h1 rfl rfl rfl:zH c 0 1 0 K _).post rfl rfl rfl
 ·simp [shp,win];omega
 ·simp [shp,win];omega
theorem z8g (h:Inv c K):∀ n,n≤c.ts.length→zH c 0 n 0 K (K.relev c n)
 | 0,_=>zH.refl
 | n+1,hn=>by
  have ih:=z8g h n (by omega);obtain ⟨hi,_,hL⟩:=z4K h n (by omega);have hr:=h.L.fit.nowr n (by rw [h.Ln];omega);have hr:0≤lg K.L.now n∧lg K.L.now n<32:=hr;have hnt:=h.cf.nt;unfold Kn.relev;dsimp only;rw [hL]
  split
  ·exact ih.le (by omega) (by omega) (by omega)
  ·have h1:=zu (K:=K.relev c n) h.cf (kd:=11) (a:=n) (b:=lg K.L.now n) (v:=0) (by decide) (z1s ⟨?_,?_,rfl⟩ (by decide))
   ·exact zH.post ((ih.trans h1).le (by omega) (by omega) (by omega)) rfl rfl rfl
   ·simp [shp,win];omega
   ·simp [shp,win];omega
theorem z3B (h:Inv c K):zH c 0 64 0 K (K.relevel c):=(z8g h _ (Nat.le_refl _)).le (by omega) h.cf.nt (by omega)
theorem z6S (h:Inv c K) {who:Int} (hw:who≤80) {s:Nat} (hs:s<c.sems.length):zH c 0 2 0 K (K.post c who s):=by
 have hok:=z5G (h.sm s hs) K.L.now;have hns:=h.cf.ns;have h1:zH c 0 1 0 K (({ K with sm:=upd K.sm s (z1Z (K.sm s).1 (K.sm s).2,z2I K.L.now (K.sm s).2) }).tell c 14 who s (z1Z (K.sm s).1 (K.sm s).2)):=by
  refine zH.pre (zu h.cf (by decide) (z1s ⟨?_,?_,?_⟩ (by decide))) rfl rfl rfl
  ·simp [shp,win];omega
  ·simp [shp,win];omega
  ·have:=hok.hi;simp [shp,win];omega
 unfold Kn.post;dsimp only
 split
 ·exact zH.refl
 ·split
  ·rename_i hne
   have hb:=z1n K.L.now _ hne;have hb2:=h.smr s hs _ hb;have hnt:=h.cf.nt;exact (h1.trans (z2M h.cf (by omega) (.inr rfl))).le (by omega) (by omega) (by omega)
  ·exact h1.le (by omega) (by omega) (by omega)
theorem zac (h:Inv c K) {t:Nat} (ht:t<c.ts.length):zH c 0 1 0 K (K.timeout c t):=by
 have hnt:=h.cf.nt;have key:∀ {K1:Kn} {a:Int},K1.told=K.told→K1.cycle=K.cycle→K1.count=K.count→zH c 0 1 0 K (K1.wake c t 0 a):=fun e1 e2 e3=>zH.pre (z2M h.cf (by omega) (.inl rfl)) e1 e2 e3;unfold Kn.timeout;dsimp only
 repeat' split
 ·exact zH.refl
 all_goals exact key rfl rfl rfl
theorem zaa (h:Inv c K) {t:Nat} (ht:t<c.ts.length):zH c 0 1 0 K (K.release c t):=by
 have hnt:=h.cf.nt;have hl:=(h.T t ht).late;have key:zH c 0 1 0 K (if (K.T t).st=0 then
   { (K.setT t { K.T t with job:=((K.T t).job+1)%4294967296,st:=1 }).tell c 6 t 0 (((K.T t).job+1)%4294967296) with R:=z9N ((K.setT t { K.T t with job:=((K.T t).job+1)%4294967296,st:=1 }).tell c 6 t 0 (((K.T t).job+1)%4294967296)).R t (K.T t).lev.toNat }
  else (K.setT t { K.T t with late:=min ((K.T t).late+1) 255 }).tell c 7 t 0 (min ((K.T t).late+1) 255)):=by
  split
  ·have h1:=zu (K:=K.setT t { K.T t with job:=((K.T t).job+1)%4294967296,st:=1 }) h.cf (kd:=6) (a:=t) (b:=0) (v:=((K.T t).job+1)%4294967296) (by decide) (z1s ⟨?_,rfl,rfl⟩ (by decide))
   ·exact (zH.pre h1 rfl rfl rfl:zH c 0 1 0 K _).post rfl rfl rfl
   ·simp [shp,win];omega
  ·refine zH.pre (zu h.cf (by decide) (z1s ⟨?_,rfl,?_⟩ (by decide))) rfl rfl rfl
   ·simp [shp,win];omega
   ·simp [shp,win];omega
 unfold Kn.release;dsimp only
 split
 ·exact key.post rfl rfl rfl
 ·exact key
theorem zf2 (h:Inv c K) {id:Int} (hp:z3P c K id):zH c 0 3 0 K (K.over c id):=by
 unfold Kn.over;dsimp only;obtain ⟨h0,h1,h2,h3⟩:=hp
 split
 ·rename_i e
  have:=h1 e;exact (zaa h (by omega)).le (by omega) (by omega) (by omega)
 split
 ·rename_i e1 e2
  have:=h2 (by omega) e2;exact (zac h (by omega)).le (by omega) (by omega) (by omega)
 ·rename_i e1 e2
  have h4:=h3 (by omega);have hnm:=h.cf.nm;have ht:=h.cf.timers (lg c.timers (id-128).toNat) (ze1 (by omega));have hi:=zl h 18 (id-128) 0 0;have g1:zH c 0 1 0 K (K.tell c 18 (id-128) 0 0):=zu h.cf (by decide) (z1s ⟨by simp [shp,win];omega,rfl,rfl⟩ (by decide));have g2:=z6S hi (who:=80) (by omega) (s:=(lg c.timers (id-128).toNat).toNat) (by omega)
  split
  ·rename_i hne
   have hp0:(K.tell c 18 (id-128) 0 0).post c 80 (lg c.timers (id-128).toNat).toNat=K.tell c 18 (id-128) 0 0:=by
    unfold Kn.post;exact if_pos hne
   rw [hp0];refine (g1.trans (zu h.cf (by decide) (z1s ⟨rfl,?_,rfl⟩ (by decide)))).le (by omega) (by omega) (by omega);unfold Kn.postE postE
   repeat' split
   all_goals rfl
  ·exact (g1.trans g2).le (by omega) (by omega) (by omega)
theorem z5l:∀ (l:List Int) (K:Kn) (_:Inv c K) (_:∀ id∈l,z3P c K id),zH c 0 (3*l.length) 0 K (l.foldl (fun K id=>K.over c id) K)
 | [],K,_,_=>zH.refl
 | id::l,K,h,hp=>by
  have h1:=zf2 h (hp id (by simp));have h2:=z5l l (K.over c id) (zcX h (hp id (by simp))) fun x hx=>z7r (z7j id) (hp x (by simp [hx]));exact (h1.trans h2).le (by omega) (by simp;omega) (by omega)
theorem zdf {S:List Ck} (h:SOk S):(z2H S).length≤256:=by
 have h1:=z5I h;have h2:(z2H S).length≤S.length:=by
  unfold z2H
  first
   | (rw [List.length_map];exact List.length_filter_le _ _)
   | exact Nat.le_trans (List.length_filterMap_le _ _) (Nat.le_refl _)
 omega
theorem zab (h:Inv c K) (hf:¬ K.full) (hs:K.stopped=false):zH c 0 768 0 { K with count:=K.count+1,S:=z2X K.S } (K.tick c):=by
 rw [z9J hf hs];have:=zdf h.S;exact (z5l (z2H K.S) _ (z5p h hf) fun id hid=>z5y h hid).le (by omega) (by omega) (by omega)
theorem z6T (h:Inv c K) (a b:Nat):∀ n,n≤c.ls.length→zH c 0 n 0 K (K.raiseN c a b n)
 | 0,_=>zH.refl
 | n+1,hn=>by
  have ih:=z6T h a b n (by omega);have hnl:=h.cf.nl;unfold Kn.raiseN;dsimp only
  split
  ·refine ih.trans (lo':=0) (zu h.cf (by decide) (z1s ⟨?_,?_,rfl⟩ (by decide)))
   ·simp [shp,win];omega
   ·split<;>rfl
  ·exact ih.le (by omega) (by omega) (by omega)
theorem z8f (h:Inv c K) (bits:Nat):zH c 0 16 0 K (K.raise c bits):=by
 unfold Kn.raise
 split
 ·exact zH.refl
 ·have h1:Inv c { K with ln:=K.ln.raise bits }:=z8j h bits;exact zH.pre ((z6T h1 _ _ _ (Nat.le_refl _)).le (by omega) h.cf.nl (by omega)) rfl rfl rfl
theorem zR (h:Inv c K) {who:Nat} (hw:z3u c who) {i:Ins} (hi:zI i) {e:Int} (he:0≤e∧e≤16):zH c 0 1 0 K (K.refuse c who i e):=by
 have hnl:=h.cf.nl;have hop:=hi.op;have hwho:who<80:=by rcases hw with a | a<;>omega
 unfold Kn.refuse;refine zH.post (zu h.cf (kd:=23) (a:=who) (b:=e) (v:=i.op) (by decide) (z1s ⟨?_,?_,?_⟩ (by decide))) ?_ ?_ ?_
 ·simp [shp,win];omega
 ·simp [shp,win];omega
 ·simp [shp,win];omega
 all_goals unfold Kn.put;split<;>rfl
theorem zQ {who:Nat} (n v:Int):(K.put who n v).told=K.told:=by unfold Kn.put;split<;>rfl
theorem z0T {who:Nat} (n v:Int):(K.put who n v).cycle=K.cycle:=by unfold Kn.put;split<;>rfl
theorem z0S {who:Nat} (n v:Int):(K.put who n v).count=K.count:=by unfold Kn.put;split<;>rfl
theorem zH.put {K1:Kn} {lo n m:Nat} {who:Nat} {r v:Int} (h:zH c lo n m K K1):zH c lo n m K (K1.put who r v):=h.post (zQ _ _) (z0T _ _) (z0S _ _)
theorem z4n (h:Inv c K) {t:Nat} (ht:t<64) {m next:Int} (hm:0≤m∧m<32) (hn:next=255∨0≤next∧next<64):zH c 0 3 0 K (K.handed c t m next):=by
 unfold Kn.handed;dsimp only;have h1:zH c 0 1 0 K (K.tell c 13 t m 0):=zu h.cf (by decide) (z1s ⟨by simp [shp,win];omega,by simp [shp,win];omega,rfl⟩ (by decide))
 split
 ·exact h1.le (by omega) (by omega) (by omega)
 ·rename_i e
  have hn:=hn.resolve_left e;refine ((h1.trans (z2M h.cf (t:=next.toNat) (by omega) (.inr rfl))).trans (lo':=0) (zu h.cf (kd:=12) (by decide) (z1s ⟨?_,?_,rfl⟩ (by decide)))).le (by omega) (by omega) (by omega)
  ·simp [shp,win];omega
  ·simp [shp,win];omega
theorem z4v (h:Inv c K) (t m:Int):(zi K.L t m).1=255∨0≤(zi K.L t m).1∧(zi K.L t m).1<64:=by
 rcases z0D K.L h.L t m with ⟨_,_,k⟩ | ⟨_,_,_,_,_,_,k⟩ | ⟨a,b,d,e,f,g,i,k⟩
 ·exact .inl k
 ·rw [k];exact .inl rfl
 ·have hx:=z4X h.L (m:=m.toNat) (by omega) i;rw [k];have:=h.cf.nt;have:=h.Ln;exact .inr ⟨hx.1,by have:=hx.2.1;dsimp only;omega⟩
theorem zeY (h:Inv c K) {t:Nat} (ht:t<64) {m:Int} (hm:0≤m∧m<32):zH c 0 3 0 K (K.give c t m):=by
 have ho:=z2q h.L t m;have h1:Inv c { K with L:=zE K.L t m }:=zah h (z1N h.L t m) (by rw [ho.1]) ho.2 fun u hu e=>by
  rcases z2b h.L t m e with f | f
  ·exact h.Lw u hu f.1
  ·exact h.Lw u hu f.1
 unfold Kn.give;exact zH.pre (z4n h1 ht hm (z4v h t m)) rfl rfl rfl
theorem z5k {t:Nat} (ht:t<64):∀ (l:List Int) (K:Kn),Inv c K→(∀ m∈l,0≤m∧m<32)→zH c 0 (3*l.length) 0 K (l.foldl (fun K m=>K.give c t m) K)
 | [],_,_,_=>zH.refl
 | m::l,K,h,hm=>((zeY h ht (hm m (by simp))).trans (z5k ht l _ (z6n h t m) fun x hx=>hm x (by simp [hx]))).le (by omega) (by simp;omega) (by omega)
theorem zcT {L:Lk} (hL:Fit L) (t:Int):(z1O L t).length≤32∧∀ m∈z1O L t,0≤m∧m<32:=by
 have hm:=hL.m;unfold z1O
 split
 ·refine ⟨Nat.le_trans (zaf _ _ _) hm,fun m h=>?_⟩;unfold z6V at h;obtain ⟨x,hx,rfl⟩:=List.mem_map.1 h;have:=List.mem_range.1 (List.mem_filter.1 hx).1;omega
 ·exact ⟨by simp,fun m h=>by cases h⟩
def Kn.left (K:Kn) (t:Nat) (status:Int):Kn:={ K.setT t { K.T t with st:=status } with R:=z5F K.R t }
theorem za9 {t:Nat} (ht:t<64) {status:Int} (h:Inv c (K.left t status)):zH c 0 160 0 K (K.gone c t status):=by
 have h1:=z5n h t;have hr:=zcT h.L.fit (t:Int);have h2:=z3E t (z1O K.L t) _ h1;have g1:=z5k ht (z1O K.L t) _ h1 hr.2;have hr1:(z1O K.L t).length≤32:=hr.1;exact zH.pre ((g1.trans (z3B h2)).le (by omega) (by omega) (by omega)) rfl rfl rfl
theorem z2L (cf:z7T c) {t:Nat} (ht:t<64) {status on:Int} (ho:on=0∨32≤on∧on<160) {i:Ins}:zH c 0 1 0 K (K.hold c t status on i):=by
 have key:∀ K1:Kn,zH c 0 1 0 K1 (K1.tell c 9 t on 0):=fun K1=>zu cf (by decide) (z1s ⟨by simp [shp,win];omega,by simp [shp,win];omega,rfl⟩ (by decide));unfold Kn.hold;dsimp only;refine zH.pre (key _) ?_ ?_ ?_
 all_goals by_cases e:i.d=2
 all_goals simp only [e,if_true,if_false,Kn.setT]
theorem z1A (t:Nat) (i:Ins):0≤K.holdE c t i∧K.holdE c t i≤16:=by
 unfold Kn.holdE;repeat' split
 all_goals simp
end
end Go.Proofs.YtgiiidminlhbpaaGreatDoor
namespace Go.Sx
open Go.RowKit
theorem Sat.over {w0 w w':World} {P Q:HP} (hs:Sat w0 w P) (h:Sat w w' Q):Sat w0 w' (Q*P):=by
 obtain ⟨hp,p,kp⟩:=hs.own;obtain ⟨hq,q,kq⟩:=h.own;have hb:Below w0.heap.size w0 w':=hs.below.trans (h.below.mono hs.below.size);have up:∀ b o v,hp b o=some v→b<w.heap.size:=fun b o v e=>World.block_lt_of_cell? w _ (kp b o v e).2.1;refine ⟨hb,fun b o=>(hq b o).or (hp b o),?_,?_⟩
 ·refine ⟨hq,hp,fun b o=>?_,fun _ _=>rfl,q,p⟩
  cases e1:hq b o with
  | none=>exact .inl rfl
  | some v =>
   cases e2:hp b o with
   | none=>exact .inr rfl
   | some u =>
    have:=(kq b o v e1).1;have:=up b o u e2;omega
 ·intro b o v e;have e:(hq b o).or (hp b o)=some v:=e
  cases e1:hq b o with
  | some u =>
   rw [e1] at e;obtain rfl:u=v:=by simpa using e
   obtain ⟨k1,k2,k3⟩:=kq b o u e1;exact ⟨Nat.le_trans hs.below.size k1,k2,k3⟩
  | none =>
   rw [e1] at e;have e:hp b o=some v:=by simpa using e
   obtain ⟨k1,k2,k3⟩:=kp b o v e;have hlt:=up b o v e;exact ⟨k1,(h.below.cell (p:=⟨b,o,none⟩) hlt).trans k2,(h.below.frozen (p:=⟨b,o,none⟩) hlt).trans k3⟩
theorem Sat.past {w0 w w':World} {P:HP} (hs:Sat w0 w P) (h:Sat w w' emp):Sat w0 w' P:=(hs.over h).perm (zm _)
theorem z2i {w0:World} {α:Type} {sz:Nat} {E:Enc α sz} {b o:Nat} {l:List α} (h:∀ j u,(cellsOf l)[j]?=some u→w0.cell? ⟨b,o+j,none⟩=some u) {k c:Nat} {v:Value} (hk:k<l.length) (hc:c<sz) (he:(E.enc (l.getD k E.dft))[c]?=some v):w0.cell? ⟨b,o+k*sz+c,none⟩=some v:=by
 have:=h (k*sz+c) v (by rw [z0Y hk hc];exact he)
 rwa [← Nat.add_assoc] at this
end Go.Sx
namespace Go.Proofs.YtgiiidminlhbpaaGreatDoor
open Go.RowKit Go.Sx Go.Dl Go.Lk Go.Rq Go.Au
def ftV (f:Ft):Value:=.agg #[.int .i64 f.err,.int .i64 f.part,.int .i64 f.index,.int .i64 f.at_]
theorem z0y (n lo hi:Int) (z:Bool) (hz:inR n lo hi=z) (w:World):Calls Tryz.prog 67 #[.int .i64 n,.int .i64 lo,.int .i64 hi] w fun e w'=>e=.returned (.bool z)∧w=w':=by
 subst hz;unfold inR
 by_cases h1:lo≤n
 ·by_cases h2:n≤hi
  ·have d1:decide (lo≤n)=true:=decide_eq_true h1;have d2:decide (n≤hi)=true:=decide_eq_true h2;rw [decide_eq_true (show lo≤n∧n≤hi from ⟨h1,h2⟩)];clear h1 h2
   go_enter Tryz.func67,Tryz.ntmps67
   go_wp2;go_ret;exact ⟨rfl,rfl⟩
  ·have d1:decide (lo≤n)=true:=decide_eq_true h1;have d2:decide (n≤hi)=false:=decide_eq_false h2;rw [decide_eq_false (show ¬ (lo≤n∧n≤hi) from fun h=>h2 h.2)];clear h1 h2
   go_enter Tryz.func67,Tryz.ntmps67
   go_wp2;go_ret;exact ⟨rfl,rfl⟩
 ·have d1:decide (lo≤n)=false:=decide_eq_false h1;rw [decide_eq_false (show ¬ (lo≤n∧n≤hi) from fun h=>h1 h.1)];clear h1
  go_enter Tryz.func67,Tryz.ntmps67
  go_wp2;go_ret;exact ⟨rfl,rfl⟩
theorem z1j (ok:Bool) (part:Int) (w:World):Calls Tryz.prog 66 #[.bool ok,.int .i64 part] w (zp w (ftV (z8u ok part)) emp):=by
 have hs:=Sat.start w;unfold z8u ftV
 cases ok
 ·go_enter Tryz.func66,Tryz.ntmps66
  go_wp2_with fail;go_returns;exact ⟨rfl,z3⟩
 ·go_enter Tryz.func66,Tryz.ntmps66
  go_wp2_with fail;go_returns;exact ⟨rfl,z3⟩
theorem zl0 {l:List Int} {p lo hi:Int} {k:Nat} (hl:¬ 32<l.length) (hk:k<l.length) (h:z4j l lo hi k=true) (hj:∀ j,j<k→z4j l lo hi j=false):z84 l p lo hi=⟨5,p,k,1⟩:=by
 unfold z84;rw [if_neg hl,z2y hk h hj]
theorem zgr {l:List Int} {p lo hi:Int} (hl:¬ 32<l.length) (hj:∀ j,j<l.length→z4j l lo hi j=false):z84 l p lo hi=ft0:=by
 unfold z84;rw [if_neg hl,z38 hj]
theorem zbq (v:Value) (l:List Int) (part lo hi:Int) (w0:World) (hr:RdN .i64 w0 v l):Calls Tryz.prog 68 #[v,.int .i64 part,.int .i64 lo,.int .i64 hi] w0 (zp w0 (ftV (z84 l part lo hi)) emp):=by
 have hs:=Sat.start w0;obtain ⟨a,cap,g,off,rfl,_,hcm,ha,hc⟩:=hr
 by_cases hl:32<l.length
 ·have hx:z84 l part lo hi=⟨4,part,0,0⟩:=by unfold z84;rw [if_pos hl]
  rw [hx];have d1:decide (32<l.length)=true:=decide_eq_true hl;have d2:decide ((32:Int)<(l.length:Int))=true:=by simp;omega
  clear ha hc hx
  go_enter Tryz.func68,Tryz.ntmps68
  go_wp2_with fail;go_returns;exact ⟨rfl,z3⟩
 ·have d1:decide (32<l.length)=false:=decide_eq_false hl;have d2:decide ((32:Int)<(l.length:Int))=false:=by simp;omega
  have Ha:=hid ha;have Hc:=hid hc;clear ha hc
  go_enter Tryz.func68,Tryz.ntmps68
  go_wp2_with fail;refine z9 (w0:=w0) ?_;intro ww hsw;clear hs
  go_loopw [18] (fun i wr=>∃ k:Nat,k≤l.length∧i=.int .i64 k∧(∀ j,j<k→z4j l lo hi j=false)∧Sat w0 wr (pts w0.heap.size 0 [.int .i64 0,.int .i64 0,.int .i64 0,.int .i64 0]*emp)) (fun i _=>l.length-(intOf i).toNat)
  case atStart=>exact ⟨0,Nat.zero_le _,rfl,fun j hj=>absurd hj (by omega),hsw⟩
  case round =>
   obtain ⟨k,hk,rfl,hb,hsr⟩:=hrel;clear hsw;have Hb:=hid hb;clear hb
   by_cases hlt:k<l.length
   ·have d3:decide (k<l.length)=true:=decide_eq_true hlt;have i3:(k:Int)<(l.length:Int):=by omega
    obtain rfl:=Ha.out (by intro h;simp [h] at hlt);haveI o1:Old w0 g (off+k) (.int .i64 (lg l k)):=⟨Hc.out k hlt⟩
    cases hz:inR (lg l k) lo hi
    ·have hx:=hid (zl0 (p:=part) hl hlt (by unfold z4j;rw [hz];rfl) Hb.out);have hI:=hid (fun w=>z0y (lg l k) lo hi false hz w);rw [hx.out];clear hz hx;go_wp2_with fail;refine (hI.out _).mono ?_;rintro en w1 ⟨rfl,rfl⟩;go_wp2_with fail;go_returns;exact ⟨rfl,z3⟩
    ·have hI:=hid (fun w=>z0y (lg l k) lo hi true hz w);have hb2:Hid (∀ j,j<k+1→z4j l lo hi j=false):=hid fun j hj=>by
      rcases Nat.lt_or_ge j k with h | h
      ·exact Hb.out j h
      ·obtain rfl:j=k:=by omega
       unfold z4j;rw [hz];rfl
     clear hz;go_wp2_with fail;refine (hI.out _).mono ?_;rintro en w1 ⟨rfl,rfl⟩;go_wp2_with fail;go_roundw
     case rel=>exact ⟨k+1,by omega,by go_num,hb2.out,z3⟩
     case measure=>simp [intOf];omega
   ·have hkl:k=l.length:=by omega
    subst hkl;have d3:decide (l.length<l.length)=false:=by simp
    have hx:=hid (zgr (p:=part) hl Hb.out);clear hlt;go_wp2_with fail
    all_goals
     go_returns;refine ⟨?_,z3⟩;rw [hx.out];rfl
end Go.Proofs.YtgiiidminlhbpaaGreatDoor
namespace Go.Proofs.YtgiiidminlhbpaaGreatDoor
open Go.RowKit Go.Sx Go.Dl Go.Lk Go.Rq Go.Au
structure Tv where
 lev:Int
 off:Int
 per:Int
 dl:Int
 mem:Int
 ca:Option Addr
 cn:Nat
 cc:Nat
structure Lv where
 mem:Int
 ca:Option Addr
 cn:Nat
 cc:Nat
def Tv.cv (t:Tv):Value:=.slice t.ca t.cn t.cc
def Lv.cv (t:Lv):Value:=.slice t.ca t.cn t.cc
abbrev tv0:Tv:=⟨0,0,0,0,0,none,0,0⟩
abbrev lv0:Lv:=⟨0,none,0,0⟩
instance z8Q:Enc Tv 6 where
 enc t:=[.int .i64 t.lev,.int .i64 t.off,.int .i64 t.per,.int .i64 t.dl,.int .i64 t.mem,.slice t.ca t.cn t.cc]
 len _:=rfl
 one t:=by intro u hu;simp at hu;rcases hu with rfl | rfl | rfl | rfl | rfl | rfl<;>rfl
 dft:=tv0
 pos:=by decide
instance z8P:Enc Lv 2 where
 enc t:=[.int .i64 t.mem,.slice t.ca t.cn t.cc]
 len _:=rfl
 one t:=by intro u hu;simp at hu;rcases hu with rfl | rfl<;>rfl
 dft:=lv0
 pos:=by decide
structure IsT (w:World) (v:Tv) (t:Tc):Prop where
 lev:v.lev=t.lev
 off:v.off=t.off
 per:v.per=t.per
 dl:v.dl=t.dl
 mem:v.mem=t.mem
 code:RdR w v.cv t.code
structure IsL (w:World) (v:Lv) (t:Lc):Prop where
 mem:v.mem=t.mem
 code:RdR w v.cv t.code
def zjD (w:World) (v:Value) (ts:List Tc):Prop:=∃ l:List Tv,RdR w v l∧l.length=ts.length∧∀ t,t<ts.length→IsT w (l.getD t tv0) (ts.getD t tc0)
def zjB (w:World) (v:Value) (ls:List Lc):Prop:=∃ l:List Lv,RdR w v l∧l.length=ls.length∧∀ t,t<ls.length→IsL w (l.getD t lv0) (ls.getD t lc0)
structure z8I (w:World) (v:Value) (c:Cf):Prop where
 out:∃ tv lv sv qv mv,v=.agg #[tv,lv,.int .i64 c.mutexes,sv,qv,mv,.int .i64 c.table,.int .u32 c.mask,.int .u32 c.filter,.int .i64 c.charge,.int .u64 c.cycle,.int .u64 c.count]∧zjD w tv c.ts∧zjB w lv c.ls∧RdN .i64 w sv c.sems∧RdN .i64 w qv c.queues∧RdN .i64 w mv c.timers
theorem zh9 {l:List Ins} {isr:Bool} {p i a:Int} {k:Nat} (hl:¬ 256<l.length) (hk:k<l.length) (h:z1V l isr k=true) (hj:∀ j,j<k→z1V l isr j=false):z5f l isr p i a=⟨z1y (zM l k) l.length isr,p,i,a+1+k⟩:=by
 unfold z5f;rw [if_neg hl,z2y hk h hj]
theorem zdC {l:List Ins} {isr:Bool} {p i a:Int} (hl:¬ 256<l.length) (hj:∀ j,j<l.length→z1V l isr j=false):z5f l isr p i a=ft0:=by
 unfold z5f;rw [if_neg hl,z38 hj]
theorem zcF (v:Value) (l:List Ins) (isr:Bool) (e0 part idx a0 at_:Int) (hat:0≤at_∧at_≤100) (hk:∀ i∈l,zG i.k) (w0:World) (hr:RdR w0 v l) :
  Calls Tryz.prog 84 #[v,.bool isr,.agg #[.int .i64 e0,.int .i64 part,.int .i64 idx,.int .i64 a0],.int .i64 at_] w0 (zp w0 (ftV (z5f l isr part idx at_)) emp):=by
 have hs:=Sat.start w0;obtain ⟨a,cap,g,off,rfl,_,hcm,ha,hc⟩:=hr;have hat0:=hat.1;have hat1:=hat.2
 by_cases hl:256<l.length
 ·have hx:z5f l isr part idx at_=⟨4,part,idx,at_⟩:=by unfold z5f;rw [if_pos hl]
  rw [hx];have d1:decide (256<l.length)=true:=decide_eq_true hl;have d2:decide ((256:Int)<(l.length:Int))=true:=by simp;omega
  clear ha hc hx
  go_enter Tryz.func84,Tryz.ntmps84
  go_wp2_with fail;go_returns;exact ⟨rfl,z3⟩
 ·have d1:decide (256<l.length)=false:=decide_eq_false hl;have d2:decide ((256:Int)<(l.length:Int))=false:=by simp;omega
  have Ha:=hid ha;have Hc:=hid hc;have Hk:=hid hk;clear ha hc hk
  go_enter Tryz.func84,Tryz.ntmps84
  go_wp2_with fail;refine z9 (w0:=w0) ?_;intro ww hsw;clear hs
  go_loopw [21] (fun i wr=>∃ k:Nat,k≤l.length∧i=.int .i64 k∧(∀ j,j<k→z1V l isr j=false)∧Sat w0 wr (pts w0.heap.size 0 [.int .i64 e0,.int .i64 part,.int .i64 idx,.int .i64 at_]*(pts (w0.heap.size+1) 0 [.int .i64 0,.int .i64 0,.int .i64 0,.int .i64 0]*any))) (fun i _=>l.length-(intOf i).toNat)
  case atStart=>exact ⟨0,Nat.zero_le _,rfl,fun j hj=>absurd hj (by omega),z3⟩
  case round =>
   obtain ⟨k,hk,rfl,hb,hsr⟩:=hrel;clear hsw;have Hb:=hid hb;clear hb
   by_cases hlt:k<l.length
   ·have d3:decide (k<l.length)=true:=decide_eq_true hlt;have i3:(k:Int)<(l.length:Int):=by omega
    obtain rfl:=Ha.out (by intro h;simp [h] at hlt);obtain ⟨i,hi⟩:∃ i,i=zM l k:=⟨_,rfl⟩;have hgd:l.getD k zmV=i:=by rw [hi];rfl
    have hik:zG i.k:=Hk.out i (by rw [hi];exact z3C (by omega) (by omega));have hcb:z1V l isr k=decide (z1y i l.length isr≠0):=by unfold z1V;rw [← hi]
    have hbad:=hid fun h=>zh9 (p:=part) (i:=idx) (a:=at_) hl hlt h Hb.out;rw [← hi] at hbad;have oc:∀ c u,c<6→(za3.enc i)[c]?=some u→w0.cell? ⟨g,off+k*6+c,none⟩=some u:=fun c u hc6 he=>z2i Hc.out hlt hc6 (by show (za3.enc (l.getD k zmV))[c]?=some u;rw [hgd];exact he);haveI o0:Old w0 g (off+k*6) (.int .i64 i.op):=⟨oc 0 _ (by decide) rfl⟩;haveI o1:Old w0 g (off+k*6+1) (.int .i64 i.a):=⟨oc 1 _ (by decide) rfl⟩;haveI o2:Old w0 g (off+k*6+2) (.int .i64 i.b):=⟨oc 2 _ (by decide) rfl⟩;haveI o3:Old w0 g (off+k*6+3) (.int .i64 i.c):=⟨oc 3 _ (by decide) rfl⟩;haveI o4:Old w0 g (off+k*6+4) (.int .i64 i.d):=⟨oc 4 _ (by decide) rfl⟩;haveI o5:Old w0 g (off+k*6+5) (.int .u32 i.k):=⟨oc 5 _ (by decide) rfl⟩;obtain ⟨z,hz⟩:∃ z,z=z1y i l.length isr:=⟨_,rfl⟩;have hI:=hid (fun (w:World) (P:HP) (hs:Sat w0 w (pts w0.heap.size 0 [.int .i64 e0,.int .i64 part,.int .i64 idx,.int .i64 at_]*P))=>zhu i l.length isr z hz.symm hik w0 w _ hs);rw [← hz] at hbad hcb;clear oc hgd hi hik
    by_cases hz0:z=0
    ·subst hz0;have hb2:Hid (∀ j,j<k+1→z1V l isr j=false):=hid fun j hj=>by
      rcases Nat.lt_or_ge j k with h | h
      ·exact Hb.out j h
      ·obtain rfl:j=k:=by omega
       rw [hcb];simp
     clear hz hcb hbad;go_wp2_with fail;refine (hI.out _ _ own).mono ?_;rintro en w1 ⟨rfl,hs1⟩;go_wp2_with fail;go_roundw
     case rel=>exact ⟨k+1,by omega,by go_num,hb2.out,z3⟩
     case measure=>simp [intOf];omega
    ·have hx:=hid (hbad.out (by rw [hcb];simp [hz0]));have z1:(z != 0)=true:=by simp [hz0]
     rw [hx.out];clear hz hcb hbad hz0 hx;go_wp2_with fail;refine (hI.out _ _ own).mono ?_;rintro en w1 ⟨rfl,hs1⟩;go_wp2_with fail;go_returns;exact ⟨rfl,z3⟩
   ·have hkl:k=l.length:=by omega
    subst hkl;have d3:decide (l.length<l.length)=false:=by simp
    have hx:=hid (zdC (p:=part) (i:=idx) (a:=at_) hl Hb.out);clear hlt;go_wp2_with fail
    all_goals
     go_returns;refine ⟨?_,z3⟩;rw [hx.out];rfl
theorem zha (v:Tv) (t:Tc) (i:Nat) (hi:i<1000) (hk:∀ i∈t.code,zG i.k) (w0:World) (hv:IsT w0 v t) :
  Calls Tryz.prog 83 #[.agg #[.int .i64 v.lev,.int .i64 v.off,.int .i64 v.per,.int .i64 v.dl,.int .i64 v.mem,.slice v.ca v.cn v.cc],.int .i64 i] w0 (zp w0 (ftV (z53 t i)) emp):=by
 obtain ⟨h1,h2,h3,h4,h5,h6⟩:=hv;have hC:=hid (fun (w:World) (h:Sat w0 w emp)=>zcF v.cv t.code false 5 1 i 0 6 (by decide) hk w (h6.later h));rw [h1,h2,h3,h4,h5];clear h1 h2 h3 h4 h5 h6 hk;have hs:=Sat.start w0;unfold z53
 cases g1:inR t.lev 0 31
 ·have hA:=hid (fun w=>z0y t.lev 0 31 false g1 w);clear g1 hC
  go_enter Tryz.func83,Tryz.ntmps83
  go_wp2_with fail;refine (hA.out _).mono ?_;rintro en w1 ⟨rfl,rfl⟩;go_wp2_with fail;go_returns;exact ⟨rfl,z3⟩
 cases g2:inR t.off 1 1073741824
 ·have hA:=hid (fun w=>z0y t.lev 0 31 true g1 w);have hB:=hid (fun w=>z0y t.off 1 1073741824 false g2 w);clear g1 g2 hC
  go_enter Tryz.func83,Tryz.ntmps83
  go_wp2_with fail;refine (hA.out _).mono ?_;rintro en w1 ⟨rfl,rfl⟩;go_wp2_with fail;refine (hB.out _).mono ?_;rintro en w1 ⟨rfl,rfl⟩;go_wp2_with fail;go_returns;exact ⟨rfl,z3⟩
 cases g3:inR t.per 0 1073741824
 ·have hA:=hid (fun w=>z0y t.lev 0 31 true g1 w);have hB:=hid (fun w=>z0y t.off 1 1073741824 true g2 w);have hD:=hid (fun w=>z0y t.per 0 1073741824 false g3 w);clear g1 g2 g3 hC
  go_enter Tryz.func83,Tryz.ntmps83
  go_wp2_with fail;refine (hA.out _).mono ?_;rintro en w1 ⟨rfl,rfl⟩;go_wp2_with fail;refine (hB.out _).mono ?_;rintro en w1 ⟨rfl,rfl⟩;go_wp2_with fail;refine (hD.out _).mono ?_;rintro en w1 ⟨rfl,rfl⟩;go_wp2_with fail;go_returns;exact ⟨rfl,z3⟩
 cases g4:inR t.dl 0 1073741824
 ·have hA:=hid (fun w=>z0y t.lev 0 31 true g1 w);have hB:=hid (fun w=>z0y t.off 1 1073741824 true g2 w);have hD:=hid (fun w=>z0y t.per 0 1073741824 true g3 w);have hE:=hid (fun w=>z0y t.dl 0 1073741824 false g4 w);clear g1 g2 g3 g4 hC
  go_enter Tryz.func83,Tryz.ntmps83
  go_wp2_with fail;refine (hA.out _).mono ?_;rintro en w1 ⟨rfl,rfl⟩;go_wp2_with fail;refine (hB.out _).mono ?_;rintro en w1 ⟨rfl,rfl⟩;go_wp2_with fail;refine (hD.out _).mono ?_;rintro en w1 ⟨rfl,rfl⟩;go_wp2_with fail;refine (hE.out _).mono ?_;rintro en w1 ⟨rfl,rfl⟩;go_wp2_with fail;go_returns;exact ⟨rfl,z3⟩
 cases g5:inR t.mem 0 256
 ·have hA:=hid (fun w=>z0y t.lev 0 31 true g1 w);have hB:=hid (fun w=>z0y t.off 1 1073741824 true g2 w);have hD:=hid (fun w=>z0y t.per 0 1073741824 true g3 w);have hE:=hid (fun w=>z0y t.dl 0 1073741824 true g4 w);have hF:=hid (fun w=>z0y t.mem 0 256 false g5 w);clear g1 g2 g3 g4 g5 hC
  go_enter Tryz.func83,Tryz.ntmps83
  go_wp2_with fail;refine (hA.out _).mono ?_;rintro en w1 ⟨rfl,rfl⟩;go_wp2_with fail;refine (hB.out _).mono ?_;rintro en w1 ⟨rfl,rfl⟩;go_wp2_with fail;refine (hD.out _).mono ?_;rintro en w1 ⟨rfl,rfl⟩;go_wp2_with fail;refine (hE.out _).mono ?_;rintro en w1 ⟨rfl,rfl⟩;go_wp2_with fail;refine (hF.out _).mono ?_;rintro en w1 ⟨rfl,rfl⟩;go_wp2_with fail;go_returns;exact ⟨rfl,z3⟩
 ·have hA:=hid (fun w=>z0y t.lev 0 31 true g1 w);have hB:=hid (fun w=>z0y t.off 1 1073741824 true g2 w);have hD:=hid (fun w=>z0y t.per 0 1073741824 true g3 w);have hE:=hid (fun w=>z0y t.dl 0 1073741824 true g4 w);have hF:=hid (fun w=>z0y t.mem 0 256 true g5 w);clear g1 g2 g3 g4 g5;rw [if_neg (by simp),if_neg (by simp),if_neg (by simp),if_neg (by simp),if_neg (by simp)];generalize z5f t.code false 1 i 6=z at *
  go_enter Tryz.func83,Tryz.ntmps83
  go_wp2_with fail;refine (hA.out _).mono ?_;rintro en w1 ⟨rfl,rfl⟩;go_wp2_with fail;refine (hB.out _).mono ?_;rintro en w1 ⟨rfl,rfl⟩;go_wp2_with fail;refine (hD.out _).mono ?_;rintro en w1 ⟨rfl,rfl⟩;go_wp2_with fail;refine (hE.out _).mono ?_;rintro en w1 ⟨rfl,rfl⟩;go_wp2_with fail;refine (hF.out _).mono ?_;rintro en w1 ⟨rfl,rfl⟩;go_wp2_with fail;refine (hC.out _ z3).mono ?_;rintro en w2 ⟨rfl,hs2⟩;have hs3:=Sat.past (w0:=w0) z6 hs2;clear hs2 hs;unfold ftV;go_wp2_with fail;go_returns;exact ⟨rfl,z3⟩
end Go.Proofs.YtgiiidminlhbpaaGreatDoor
namespace Go.Proofs.YtgiiidminlhbpaaGreatDoor
open Go.RowKit Go.Sx Go.Dl Go.Lk Go.Rq Go.Au Go.ChangeShapes Go.WideShapes Go.ChangeAt
set_option linter.constructorNameAsVariable false
theorem zbk {n:Int} (h:(Lit.int .u32 n).wf=true):zG n:=by
 have h1:(decide ((0:Int)≤n) && decide (n≤4294967295))=true:=h;simp only [Bool.and_eq_true,decide_eq_true_eq] at h1;exact ⟨by omega,by omega⟩
theorem ziS {n:Int} (h:(Lit.int .u64 n).wf=true):0≤n∧n<18446744073709551616:=by
 have h1:(decide ((0:Int)≤n) && decide (n≤18446744073709551615))=true:=h;simp only [Bool.and_eq_true,decide_eq_true_eq] at h1;omega
section
variable {H:Type} {enc:TypeId×Value→H} {P:Program} {W:World}
theorem z3X {t:TypeId} {fs:Array Field} {fuel:Nat} {cs:List Value} {x:DataW H×List MemPlace} (ht:P.underlying t=some (.struct fs)) (h:DataW.trod enc P W 0 (fun _=>true) true fuel t cs=some x) :
  cs.length=P.cellsOf t∧∀ (i:Nat) (f:Field),fs[i]?=some f→∃ n y,DataW.trod enc P W 0 (fun _=>true) true n f.type ((cs.drop f.offset).take (P.cellsOf f.type))=some y:=by
 obtain ⟨xs,n,_,_,hl,hx,hf⟩:=DataW.trod_struct ht h;refine ⟨hl,fun i f e=>⟨n,xs[i]'(by have:=(Array.getElem?_eq_some_iff.1 e).1;omega),?_⟩⟩;rw [hf i f e,List.getElem?_eq_getElem]
theorem znK {cs:List Value} {o:Nat} (h:o<cs.length):(cs.drop o).take 1=[cs[o]]:=by
 rw [List.drop_eq_getElem_cons h];rfl
theorem z3A {t:TypeId} {fs:Array Field} {fuel:Nat} {cs:List Value} {x:DataW H×List MemPlace} (ht:P.underlying t=some (.struct fs)) (h:DataW.trod enc P W 0 (fun _=>true) true fuel t cs=some x)
  {T:TypeId} {i o:Nat} (ho:o<P.cellsOf t) (hg:∃ g:Field,fs[i]?=some g∧g.offset=o∧g.type=T∧P.cellsOf T=1):∃ v n y,cs[o]?=some v∧DataW.trod enc P W 0 (fun _=>true) true n T [v]=some y:=by
 obtain ⟨hl,hf⟩:=z3X ht h;obtain ⟨g,h1,rfl,rfl,h4⟩:=hg;obtain ⟨n,y,h5⟩:=hf i g h1;have hlt:g.offset<cs.length:=by omega
 rw [h4,znK hlt] at h5;exact ⟨_,n,y,List.getElem?_eq_getElem hlt,h5⟩
theorem z0C {t:TypeId} {fs:Array Field} {fuel:Nat} {cs:List Value} {x:DataW H×List MemPlace} (ht:P.underlying t=some (.struct fs)) (h:DataW.trod enc P W 0 (fun _=>true) true fuel t cs=some x)
  {T:TypeId} {κ:IntKind} {i o:Nat} (ho:o<P.cellsOf t) (hT:P.underlying T=some (.int κ)) (hg:∃ g:Field,fs[i]?=some g∧g.offset=o∧g.type=T∧P.cellsOf T=1):∃ m:Int,cs[o]?=some (.int κ m)∧(Lit.int κ m).wf=true:=by
 obtain ⟨v,n,y,h1,h2⟩:=z3A ht h ho hg;obtain ⟨m,e,_,hw⟩:=DataW.trod_int hT h2;simp only [List.cons.injEq,and_true] at e;exact ⟨m,by rw [h1,e],hw⟩
theorem z7Q {t e:TypeId} {κ:IntKind} {n:Nat} {cs:List Value} {x:DataW H×List MemPlace} (ht:P.underlying t=some (.slice e)) (he:P.underlying e=some (.int κ)) (hc:P.cellsOf e=1)
  (h:DataW.trod enc P W 0 (fun _=>true) true n t cs=some x):∃ v l,cs=[v]∧RdN κ W v l∧∀ n∈l,(Lit.int κ n).wf=true:=by
 rcases open_ints ht he hc h with ⟨hcs,_⟩ | ⟨x,l,c,zs,hcs,_,hl,hm,hz,_,hcell,hwz⟩
 ·exact ⟨_,[],hcs,⟨none,0,0,0,rfl,Nat.le_refl _,Nat.zero_le _,fun h=>absurd rfl h,fun j hj=>absurd hj (Nat.not_lt_zero _)⟩,fun n hn=>(by cases hn)⟩
 ·exact ⟨_,_,hcs,z7t hl hm (by simpa using hz) hcell,fun n hn=>hwz n (List.mem_of_mem_take hn)⟩
theorem z7R {α:Type} {sz:Nat} [E:Enc α sz] {t e:TypeId} {fuel:Nat} {cs:List Value} {x:DataW H×List MemPlace} (ht:P.underlying t=some (.slice e)) (ce:P.cellsOf e=sz) {G:α→Prop}
  (he:∀ n cs x,DataW.trod enc P W 0 (fun _=>true) true n e cs=some x→∃ a:α,cs=E.enc a∧G a)
  (h:DataW.trod enc P W 0 (fun _=>true) true fuel t cs=some x):∃ v l,cs=[v]∧RdR W v l∧∀ a∈l,G a:=by
 rcases Go.Deep.open_slice ht h with ⟨hcs,_⟩ | ⟨a,len,cap,m,n,D,Pl,hcs,_,hl,hm,hmm,_,hx⟩
 ·exact ⟨_,[],hcs,z5D W,fun a h=>by cases h⟩
 ·simp at hmm;subst hmm;have each:∀ i,i<m→∃ y:α,G y∧∀ c u,(E.enc y)[c]?=some u→W.cell? (a.add (i*sz+c))=some u:=fun i hi=>by
   obtain ⟨cs',h1,h2⟩:=hx i hi;obtain ⟨_,hlen,hcell⟩:=World.cells?_some h1;obtain ⟨y,rfl,hG⟩:=he _ _ _ h2;refine ⟨y,hG,fun c u hu=>?_⟩;have hc:=hcell c (by rw [ce,← E.len y];exact (List.getElem?_eq_some_iff.1 hu).1);rw [Go.Deep.add_add,ce] at hc;rw [hc];exact hu
  haveI:Inhabited α:=⟨E.dft⟩;obtain ⟨f,hf⟩:=Go.Deep.choose_lt each;have hsz:=E.pos;refine ⟨_,(List.range len).map f,hcs,?_,fun y hy=>?_⟩
  ·by_cases h0:0<len
   ·have hpos:0<(E.enc (f 0)).length:=by rw [E.len];exact hsz
    obtain ⟨b,off,rfl⟩:=z6F (by simpa using (hf 0 (by omega)).2 0 _ (List.getElem?_eq_getElem hpos));refine ⟨_,m,b,off,by simp,by simpa using hl,hm,fun _=>rfl,fun j u hj=>?_⟩;have hjl:=(List.getElem?_eq_some_iff.1 hj).1;rw [zJ,List.length_map,List.length_range] at hjl;have e1:j=j / sz*sz+j%sz:=by rw [Nat.mul_comm];exact (Nat.div_add_mod j sz).symm
    have hk:j / sz<len:=(Nat.div_lt_iff_lt_mul hsz).2 hjl;have hc:j%sz<sz:=Nat.mod_lt _ hsz;rw [e1] at hj;rw [z0Y (by simpa using hk) hc] at hj;have hg:((List.range len).map f).getD (j / sz) E.dft=f (j / sz):=by simp [List.getD,hk]
    rw [hg] at hj;have:=(hf (j / sz) (by omega)).2 _ u hj;rw [← e1,Addr.add_lit] at this;exact this
   ·have:len=0:=by omega
    subst this;exact ⟨some a,m,0,0,rfl,by simp,hm,fun h=>absurd (by simp) h,fun j u hj=>by simp [cellsOf] at hj⟩
  ·rw [List.mem_map] at hy;obtain ⟨i,hi,rfl⟩:=hy;exact (hf i (by have:=List.mem_range.1 hi;omega)).1
end
section
variable {H:Type} {enc:TypeId×Value→H} {W:World}
theorem cs6 {cs:List Value} {a b c d e f:Value} (hl:cs.length=6) (h0:cs[0]?=some a) (h1:cs[1]?=some b) (h2:cs[2]?=some c) (h3:cs[3]?=some d) (h4:cs[4]?=some e) (h5:cs[5]?=some f):cs=[a,b,c,d,e,f]:=by
 match cs,hl with
 | [_,_,_,_,_,_],_=>simp_all
theorem cs2 {cs:List Value} {a b:Value} (hl:cs.length=2) (h0:cs[0]?=some a) (h1:cs[1]?=some b):cs=[a,b]:=by
 match cs,hl with
 | [_,_],_=>simp_all
theorem zo5 {cs:List Value} {a b c d e f g h i j k l:Value} (hl:cs.length=12) (h0:cs[0]?=some a) (h1:cs[1]?=some b) (h2:cs[2]?=some c) (h3:cs[3]?=some d) (h4:cs[4]?=some e) (h5:cs[5]?=some f)
  (h6:cs[6]?=some g) (h7:cs[7]?=some h) (h8:cs[8]?=some i) (h9:cs[9]?=some j) (h10:cs[10]?=some k) (h11:cs[11]?=some l):cs=[a,b,c,d,e,f,g,h,i,j,k,l]:=by
 match cs,hl with
 | [_,_,_,_,_,_,_,_,_,_,_,_],_=>simp_all
abbrev Trd (enc:TypeId×Value→H) (W:World) (n:Nat) (t:TypeId) (cs:List Value) (x:DataW H×List MemPlace):Prop:=DataW.trod enc Tryz.prog W 0 (fun _=>true) true n t cs=some x
theorem ziQ (n:Nat) (cs:List Value) (x:DataW H×List MemPlace) (h:Trd enc W n 73 cs x):∃ i:Ins,cs=za3.enc i∧zG i.k:=by
 have hu:=Tryz.underlying73;have hs:Tryz.prog.cellsOf 73=6:=by kernel_rfl
 have hi:Tryz.prog.underlying 3=some (.int .i64):=Tryz.underlying3;have hk:Tryz.prog.underlying 25=some (.int .u32):=Tryz.underlying25;have ci:Tryz.prog.cellsOf 3=1:=by kernel_rfl
 have ck:Tryz.prog.cellsOf 25=1:=by kernel_rfl
 obtain ⟨m0,a0,_⟩:=z0C hu h (i:=0) (o:=0) (by rw [hs];decide) hi ⟨_,rfl,rfl,rfl,ci⟩;obtain ⟨m1,a1,_⟩:=z0C hu h (i:=1) (o:=1) (by rw [hs];decide) hi ⟨_,rfl,rfl,rfl,ci⟩;obtain ⟨m2,a2,_⟩:=z0C hu h (i:=2) (o:=2) (by rw [hs];decide) hi ⟨_,rfl,rfl,rfl,ci⟩;obtain ⟨m3,a3,_⟩:=z0C hu h (i:=3) (o:=3) (by rw [hs];decide) hi ⟨_,rfl,rfl,rfl,ci⟩;obtain ⟨m4,a4,_⟩:=z0C hu h (i:=4) (o:=4) (by rw [hs];decide) hi ⟨_,rfl,rfl,rfl,ci⟩;obtain ⟨m5,a5,w5⟩:=z0C hu h (i:=5) (o:=5) (by rw [hs];decide) hk ⟨_,rfl,rfl,rfl,ck⟩;exact ⟨⟨m0,m1,m2,m3,m4,m5⟩,cs6 ((z3X hu h).1.trans hs) a0 a1 a2 a3 a4 a5,zbk w5⟩
theorem zbh {n:Nat} {v:Value} {x:DataW H×List MemPlace} (h:Trd enc W n 65 [v] x):∃ l:List Ins,RdR W v l∧∀ i∈l,zG i.k:=by
 obtain ⟨v',l,e,hr,hG⟩:=z7R (E:=za3) Tryz.underlying65 (by kernel_rfl) ziQ h;simp only [List.cons.injEq,and_true] at e;subst e;exact ⟨l,hr,hG⟩
theorem zdj {α:Type} {sz:Nat} [E:Enc α sz] {w:World} {v:Value} {l:List α} (h:RdR w v l):∃ a n c,v=.slice a n c:=by
 obtain ⟨a,cap,b,off,e,_⟩:=h;exact ⟨_,_,_,e⟩
theorem zgK (n:Nat) (cs:List Value) (x:DataW H×List MemPlace) (h:Trd enc W n 67 cs x):∃ t:Tv,cs=z8Q.enc t∧∃ l:List Ins,RdR W t.cv l∧∀ i∈l,zG i.k:=by
 have hu:=Tryz.underlying67;have hs:Tryz.prog.cellsOf 67=6:=by kernel_rfl
 have hi:Tryz.prog.underlying 3=some (.int .i64):=Tryz.underlying3;have ci:Tryz.prog.cellsOf 3=1:=by kernel_rfl
 have ck:Tryz.prog.cellsOf 65=1:=by kernel_rfl
 obtain ⟨m0,a0,_⟩:=z0C hu h (i:=0) (o:=0) (by rw [hs];decide) hi ⟨_,rfl,rfl,rfl,ci⟩;obtain ⟨m1,a1,_⟩:=z0C hu h (i:=1) (o:=1) (by rw [hs];decide) hi ⟨_,rfl,rfl,rfl,ci⟩;obtain ⟨m2,a2,_⟩:=z0C hu h (i:=2) (o:=2) (by rw [hs];decide) hi ⟨_,rfl,rfl,rfl,ci⟩;obtain ⟨m3,a3,_⟩:=z0C hu h (i:=3) (o:=3) (by rw [hs];decide) hi ⟨_,rfl,rfl,rfl,ci⟩;obtain ⟨m4,a4,_⟩:=z0C hu h (i:=4) (o:=4) (by rw [hs];decide) hi ⟨_,rfl,rfl,rfl,ci⟩;obtain ⟨v,n',y,a5,h5⟩:=z3A hu h (i:=5) (o:=5) (by rw [hs];decide) ⟨_,rfl,rfl,rfl,ck⟩;obtain ⟨l,hr,hk⟩:=zbh h5;obtain ⟨ca,cn,cc,rfl⟩:=zdj hr;exact ⟨⟨m0,m1,m2,m3,m4,ca,cn,cc⟩,cs6 ((z3X hu h).1.trans hs) a0 a1 a2 a3 a4 a5,l,hr,hk⟩
theorem zgJ (n:Nat) (cs:List Value) (x:DataW H×List MemPlace) (h:Trd enc W n 70 cs x):∃ t:Lv,cs=z8P.enc t∧∃ l:List Ins,RdR W t.cv l∧∀ i∈l,zG i.k:=by
 have hu:=Tryz.underlying70;have hs:Tryz.prog.cellsOf 70=2:=by kernel_rfl
 have hi:Tryz.prog.underlying 3=some (.int .i64):=Tryz.underlying3;have ci:Tryz.prog.cellsOf 3=1:=by kernel_rfl
 have ck:Tryz.prog.cellsOf 65=1:=by kernel_rfl
 obtain ⟨m0,a0,_⟩:=z0C hu h (i:=0) (o:=0) (by rw [hs];decide) hi ⟨_,rfl,rfl,rfl,ci⟩;obtain ⟨v,n',y,a5,h5⟩:=z3A hu h (i:=1) (o:=1) (by rw [hs];decide) ⟨_,rfl,rfl,rfl,ck⟩;obtain ⟨l,hr,hk⟩:=zbh h5;obtain ⟨ca,cn,cc,rfl⟩:=zdj hr;exact ⟨⟨m0,ca,cn,cc⟩,cs2 ((z3X hu h).1.trans hs) a0 a5,l,hr,hk⟩
theorem zhX {l:List Tv} (h:∀ t∈l, ∃ k:List Ins,RdR W t.cv k∧∀ i∈k,zG i.k):∃ ts:List Tc,l.length=ts.length∧∀ t,t<ts.length→IsT W (l.getD t tv0) (ts.getD t tc0)∧∀ i∈(ts.getD t tc0).code,zG i.k:=by
 induction l with
 | nil=>exact ⟨[],rfl,fun t ht=>absurd ht (by simp)⟩
 | cons a l ih =>
  obtain ⟨ts,e,hi⟩:=ih fun t ht=>h t (List.mem_cons_of_mem _ ht);obtain ⟨k,hr,hk⟩:=h a (List.mem_cons_self ..);refine ⟨⟨a.lev,a.off,a.per,a.dl,a.mem,k⟩::ts,by simp [e],fun t ht=>?_⟩
  cases t with
  | zero=>exact ⟨⟨rfl,rfl,rfl,rfl,rfl,hr⟩,hk⟩
  | succ t =>
   have:=hi t (by simpa using ht)
   simpa [List.getD] using this
theorem zhW {l:List Lv} (h:∀ t∈l, ∃ k:List Ins,RdR W t.cv k∧∀ i∈k,zG i.k):∃ ts:List Lc,l.length=ts.length∧∀ t,t<ts.length→IsL W (l.getD t lv0) (ts.getD t lc0)∧∀ i∈(ts.getD t lc0).code,zG i.k:=by
 induction l with
 | nil=>exact ⟨[],rfl,fun t ht=>absurd ht (by simp)⟩
 | cons a l ih =>
  obtain ⟨ts,e,hi⟩:=ih fun t ht=>h t (List.mem_cons_of_mem _ ht);obtain ⟨k,hr,hk⟩:=h a (List.mem_cons_self ..);refine ⟨⟨a.mem,k⟩::ts,by simp [e],fun t ht=>?_⟩
  cases t with
  | zero=>exact ⟨⟨rfl,hr⟩,hk⟩
  | succ t =>
   have:=hi t (by simpa using ht)
   simpa [List.getD] using this
theorem z4q {base:Nat} {v:Value} {d:DataW H} {p:List MemPlace} (hok:Value.okWide Tryz.prog W .any base 28 v) (h:DataW.Trod enc Tryz.prog W 0 (fun _=>true) true 28 v d p) :
  ∃ c:Cf,z8I W v c∧z6B c:=by
 have hu:=Tryz.underlying28;have hs:Tryz.prog.cellsOf 28=12:=by kernel_rfl
 have hi:Tryz.prog.underlying 3=some (.int .i64):=Tryz.underlying3;have hk:Tryz.prog.underlying 25=some (.int .u32):=Tryz.underlying25;have hq:Tryz.prog.underlying 26=some (.int .u64):=Tryz.underlying26;have ci:Tryz.prog.cellsOf 3=1:=by kernel_rfl
 have ck:Tryz.prog.cellsOf 25=1:=by kernel_rfl
 have cq:Tryz.prog.cellsOf 26=1:=by kernel_rfl
 have cn:Tryz.prog.cellsOf 24=1:=by kernel_rfl
 have ct:Tryz.prog.cellsOf 22=1:=by kernel_rfl
 have cl:Tryz.prog.cellsOf 23=1:=by kernel_rfl
 obtain ⟨cs,rfl,hsz⟩:=okWide_struct hu hok;obtain ⟨fuel,h⟩:=h;have h:DataW.trod enc Tryz.prog W 0 (fun _=>true) true fuel 28 cs.toList=some (d,p):=h;obtain ⟨v0,n0,y0,a0,h0⟩:=z3A hu h (i:=0) (o:=0) (by rw [hs];decide) ⟨_,rfl,rfl,rfl,ct⟩;obtain ⟨v1,n1,y1,a1,h1⟩:=z3A hu h (i:=1) (o:=1) (by rw [hs];decide) ⟨_,rfl,rfl,rfl,cl⟩;obtain ⟨m2,a2,_⟩:=z0C hu h (i:=2) (o:=2) (by rw [hs];decide) hi ⟨_,rfl,rfl,rfl,ci⟩;obtain ⟨v3,n3,y3,a3,h3⟩:=z3A hu h (i:=3) (o:=3) (by rw [hs];decide) ⟨_,rfl,rfl,rfl,cn⟩;obtain ⟨v4,n4,y4,a4,h4⟩:=z3A hu h (i:=4) (o:=4) (by rw [hs];decide) ⟨_,rfl,rfl,rfl,cn⟩;obtain ⟨v5,n5,y5,a5,h5⟩:=z3A hu h (i:=5) (o:=5) (by rw [hs];decide) ⟨_,rfl,rfl,rfl,cn⟩;obtain ⟨m6,a6,_⟩:=z0C hu h (i:=6) (o:=6) (by rw [hs];decide) hi ⟨_,rfl,rfl,rfl,ci⟩;obtain ⟨m7,a7,w7⟩:=z0C hu h (i:=7) (o:=7) (by rw [hs];decide) hk ⟨_,rfl,rfl,rfl,ck⟩;obtain ⟨m8,a8,w8⟩:=z0C hu h (i:=8) (o:=8) (by rw [hs];decide) hk ⟨_,rfl,rfl,rfl,ck⟩;obtain ⟨m9,a9,_⟩:=z0C hu h (i:=9) (o:=9) (by rw [hs];decide) hi ⟨_,rfl,rfl,rfl,ci⟩;obtain ⟨m10,a10,w10⟩:=z0C hu h (i:=10) (o:=10) (by rw [hs];decide) hq ⟨_,rfl,rfl,rfl,cq⟩;obtain ⟨m11,a11,w11⟩:=z0C hu h (i:=11) (o:=11) (by rw [hs];decide) hq ⟨_,rfl,rfl,rfl,cq⟩;have hcs:=zo5 ((z3X hu h).1.trans hs) a0 a1 a2 a3 a4 a5 a6 a7 a8 a9 a10 a11;obtain ⟨_,T,e0,hT,hTk⟩:=z7R (E:=z8Q) Tryz.underlying22 (by kernel_rfl) zgK h0;obtain ⟨_,L,e1,hL,hLk⟩:=z7R (E:=z8P) Tryz.underlying23 (by kernel_rfl) zgJ h1;obtain ⟨_,S,e3,hS,_⟩:=z7Q Tryz.underlying24 hi ci h3;obtain ⟨_,Q,e4,hQ,_⟩:=z7Q Tryz.underlying24 hi ci h4;obtain ⟨_,M,e5,hM,_⟩:=z7Q Tryz.underlying24 hi ci h5;simp only [List.cons.injEq,and_true] at e0 e1 e3 e4 e5;subst e0;subst e1;subst e3;subst e4;subst e5;obtain ⟨ts,lt,ht⟩:=zhX hTk;obtain ⟨ls,ll,hl⟩:=zhW hLk;have r7:=zbk w7;have r8:=zbk w8;have g7:((m7.toNat:Nat):Int)=m7:=Int.toNat_of_nonneg r7.1;have g8:((m8.toNat:Nat):Int)=m8:=Int.toNat_of_nonneg r8.1;refine ⟨⟨ts,ls,m2,S,Q,M,m6,m7.toNat,m8.toNat,m9,m10,m11⟩,⟨_,_,_,_,_,?_,⟨T,hT,lt,fun t h=>(ht t h).1⟩,⟨L,hL,ll,fun t h=>(hl t h).1⟩,hS,hQ,hM⟩,⟨fun t h=>(ht t h).2,fun t h=>(hl t h).2,?_,?_,ziS w10,ziS w11⟩⟩
 ·rw [← Array.toArray_toList (xs:=cs),hcs];show Value.agg _=Value.agg _;rw [g7,g8]
 ·have:=r7.2;show m7.toNat<_;omega
 ·have:=r8.2;show m8.toNat<_;omega
end
end Go.Proofs.YtgiiidminlhbpaaGreatDoor
namespace Go.Proofs.YtgiiidminlhbpaaGreatDoor
open Go.RowKit Go.Sx Go.Dl Go.Lk Go.Rq Go.Au
theorem zcl (q:Mq):0≤q.sendE∧q.sendE≤16:=by
 unfold Mq.sendE
 repeat' split
 all_goals simp
theorem zce (q:Mq):0≤q.recvE∧q.recvE≤16:=by
 unfold Mq.recvE
 repeat' split
 all_goals simp
section
variable {c:Cf} {K:Kn}
theorem z25 {who:Nat} (h:Inv c K) (hw:z3u c who):who<80:=by
 have:=h.cf.nl
 rcases hw with a | a<;>omega
theorem zf4 (h:Inv c K) {who:Nat} (hw:z3u c who) (hc:who<64→z20 c K who) {i:Ins} (hi:zI i) (hm:64≤who→i.d=1) (hq:i.k<c.queues.length):zH c 0 3 0 K (K.send c who i):=by
 have hk0:=hi.k.1;have hnq:=h.cf.nq;have w80:=z25 h hw;have hlt:i.k.toNat<c.queues.length:=by omega
 have hQ:=h.ml _ hlt;have he:=zcl (K.ml i.k.toNat);unfold Kn.send;dsimp only
 split
 ·split
  ·exact (zR h hw hi he).le (by omega) (by omega) (by omega)
  ·rename_i hd
   split
   ·have h64:who<64:=by
     rcases Nat.lt_or_ge who 64 with a | a
     ·exact a
     ·exact absurd (hm a) hd
    exact zH.post ((z2L h.cf h64 (status:=5) (on:=96+i.k) (i:=i) (by omega)).le (by omega) (by omega) (by omega)) rfl rfl rfl
   ·exact (zR h hw hi (z1A who i)).le (by omega) (by omega) (by omega)
 ·have g1:zH c 0 1 0 K ((({ K with ml:=upd K.ml i.k.toNat ((K.ml i.k.toNat).send K.L.now (K.reg who i.b)) }).put who i.a 0).tell c 16 who i.k (K.reg who i.b)):=by
   refine zH.pre (zu h.cf (by decide) (z1s ⟨?_,?_,rfl⟩ (by decide))) (zQ _ _) (z0T _ _) (z0S _ _)
   ·simp [shp,win];omega
   ·simp [shp,win];omega
  split
  ·exact g1.le (by omega) (by omega) (by omega)
  ·rename_i hne
   have ht:0≤(K.ml i.k.toNat).sendT K.L.now∧(K.ml i.k.toNat).sendT K.L.now<64:=by
    unfold Mq.sendT at hne ⊢
    split at hne
    ·rename_i hr
     rw [if_pos hr];have hb:=z1n K.L.now _ hr;have:=h.mlr _ hlt _ hb;have hn:=h.cf.nt;have h0:=(hQ.1.r.2 _ hb);omega
    ·exact absurd rfl hne
   refine ((g1.trans (lo':=0) (n':=1) (m':=0) (zH.pre (zu h.cf (kd:=17) (by decide) (z1s ⟨?_,?_,rfl⟩ (by decide))) (zQ _ _) (z0T _ _) (z0S _ _))).trans (z2M h.cf (by omega) (.inr rfl))).le (by omega) (by omega) (by omega)
   ·simp [shp,win];omega
   ·simp [shp,win];omega
theorem zf3 (h:Inv c K) {who:Nat} (hw:z3u c who) (hc:who<64→z20 c K who) {i:Ins} (hi:zI i) (hm:64≤who→i.d=1) (hq:i.k<c.queues.length):zH c 0 3 0 K (K.recv c who i):=by
 have hk0:=hi.k.1;have hnq:=h.cf.nq;have w80:=z25 h hw;have hlt:i.k.toNat<c.queues.length:=by omega
 have hQ:=h.ml _ hlt;have he:=zce (K.ml i.k.toNat);unfold Kn.recv;dsimp only
 split
 ·split
  ·exact (zR h hw hi he).le (by omega) (by omega) (by omega)
  ·rename_i hd
   split
   ·have h64:who<64:=by
     rcases Nat.lt_or_ge who 64 with a | a
     ·exact a
     ·exact absurd (hm a) hd
    exact zH.post ((z2L h.cf h64 (status:=6) (on:=128+i.k) (i:=i) (by omega)).le (by omega) (by omega) (by omega)) rfl rfl rfl
   ·exact (zR h hw hi (z1A who i)).le (by omega) (by omega) (by omega)
 ·have g1:zH c 0 1 0 K (((({ K with ml:=upd K.ml i.k.toNat ((K.ml i.k.toNat).recv K.L.now) }).put who i.b ((K.ml i.k.toNat).recvV)).put who i.a 0).tell c 17 who i.k ((K.ml i.k.toNat).recvV)):=by
   refine zH.pre (zu h.cf (by decide) (z1s ⟨?_,?_,rfl⟩ (by decide))) ((zQ _ _).trans (zQ _ _)) ((z0T _ _).trans (z0T _ _)) ((z0S _ _).trans (z0S _ _))
   ·simp [shp,win];omega
   ·simp [shp,win];omega
  split
  ·exact g1.le (by omega) (by omega) (by omega)
  ·rename_i hne
   have ht:0≤(K.ml i.k.toNat).recvT K.L.now∧(K.ml i.k.toNat).recvT K.L.now<64:=by
    unfold Mq.recvT at hne ⊢
    split at hne
    ·exact absurd rfl hne
    ·rename_i hr
     rw [if_neg hr];have hb:=z1n K.L.now _ (fun e=>hr (.inr e));have:=h.mls _ hlt _ hb;have hn:=h.cf.nt;have h0:=(hQ.1.s.2 _ hb);omega
   refine ((g1.trans (lo':=0) (n':=1) (m':=0) (zu h.cf (kd:=16) (by decide) (z1s ⟨?_,?_,rfl⟩ (by decide)))).trans (z2M h.cf (by omega) (.inr rfl))).le (by omega) (by omega) (by omega)
   ·simp [shp,win];omega
   ·simp [shp,win];omega
theorem z7i (L:Lk) (t m:Int):0≤(z0f L t m).2.1∧(z0f L t m).2.1≤16:=by
 unfold z0f;repeat' split
 all_goals simp
theorem z55 (L:Lk) (t m:Int):0≤(zi L t m).2.1∧(zi L t m).2.1≤16:=by
 unfold zi;repeat' split
 all_goals simp
theorem zbZ {L:Lk} (hg:Good L) {t m:Int} (he:(z0f L t m).2.1=0):0≤m∧m<32:=by
 have:=hg.fit.m
 rcases z1C L hg t m with ⟨_,k⟩ | ⟨a,b,d,e,f,g,k⟩ | ⟨a,b,d,e,f,g,i,j,k⟩
 ·exact absurd he k
 ·omega
 ·omega
theorem zbj {L:Lk} {t m:Int} (hL:L.ow.length≤32) (he:(zi L t m).2.1=0):0≤m∧m<32:=by
 unfold zi at he
 split at he
 ·exact absurd he (by simp)
 split at he
 ·exact absurd he (by simp)
 ·rename_i h;have:=Classical.not_not.1 h;omega
theorem z5Q (h:Inv c K) {t:Nat} (ht:t<c.ts.length) (hc:z20 c K t) {i:Ins} (hd:i.d=0) (he:(z0f K.L t i.k).2.1=0):Inv c (({ K with L:=z1B K.L t i.k }).hold c t 3 (32+i.k) i):=by
 have hg:=h.L;have ho:=zaD hg t i.k;have hm:=zbZ hg he;have hr:=z2B h ht hc.st;have hx:=z5N h ht hc.at_ (status:=3) (on:=32+i.k) (by omega) (by omega) (by omega) (by omega) (by omega);have hv:=z4J h hr (i:=i) hx (fun e=>absurd e (by omega));have hT:(K.hold c t 3 (32+i.k) i).T=upd K.T t { K.T t with st:=3,on:=32+i.k }:=zag _ _ _ _;have hL:(K.hold c t 3 (32+i.k) i).L=K.L:=zjc _ _ _ _;have e1:({ K with L:=z1B K.L t i.k }).hold c t 3 (32+i.k) i={ K.hold c t 3 (32+i.k) i with L:=z1B K.L t i.k }:=by
  have hd2:¬ i.d=2:=by omega
  by_cases e:z1l c.filter 9=true
  ·simp only [Kn.hold,Kn.tell,Kn.setT,hd2,e,if_true,if_false]
  ·simp only [Kn.hold,Kn.tell,Kn.setT,hd2,e,if_true,if_false,Bool.false_eq_true]
 rw [e1];refine zah hv (z5j hg t i.k) (by rw [hL,ho.1]) (by rw [hL,ho.2]) fun u hu e=>?_;rw [hT];unfold upd
 split
 ·rfl
 ·rename_i hne
  rcases z9j hg t i.k e with f | f
  ·exact h.Lw u hu f
  ·omega
theorem zf0 (h:Inv c K) {t:Nat} (ht:t<c.ts.length) (hc:z20 c K t) {i:Ins} (hi:zI i) (hd:i.d=0):zH c 0 65 0 K (K.lock c t i):=by
 have hnt:=h.cf.nt;have hw:=zey h ht;unfold Kn.lock;dsimp only
 by_cases he:(z0f K.L t i.k).2.1=0
 ·rw [if_neg (Classical.not_not.2 he)];have hm:=zbZ h.L he
  by_cases hh:(z0f K.L t i.k).1=true
  ·rw [if_pos hh];refine zH.pl (zu h.cf (by decide) (z1s ⟨?_,?_,rfl⟩ (by decide))) (zQ _ _) (z0T _ _) (z0S _ _) (by omega) (by omega) (by omega)
   ·simp [shp,win];omega
   ·simp [shp,win];omega
  ·rw [if_neg hh];have h2:=z5Q h ht hc hd he;have g3:zH c 0 1 0 K (({ K with L:=z1B K.L t i.k }).hold c t 3 (32+i.k) i):=zH.pre (z2L h.cf (by omega) (by omega)) rfl rfl rfl;exact (g3.trans (z3B h2)).le (by omega) (by omega) (by omega)
 ·rw [if_pos he];exact (zR h hw hi (z7i _ _ _)).le (by omega) (by omega) (by omega)
theorem z5S (h:Inv c K) {t:Nat} (ht:t<c.ts.length) {i:Ins}:Inv c ((({ K with L:=zE K.L t i.k }).put t i.a 0).handed c t i.k (zi K.L t i.k).1):=by
 have h1:=z6n (z0v h (zey h ht) i.a (v:=0) ⟨by simp,by simp⟩) t i.k;have e1:(K.put t i.a 0).give c t i.k=(({ K with L:=zE K.L t i.k }).put t i.a 0).handed c t i.k (zi K.L t i.k).1:=by
  unfold Kn.give;rw [zms];unfold Kn.put;split<;>rfl
 rw [e1] at h1;exact h1
theorem zby (h:Inv c K) {t:Nat} (ht:t<c.ts.length) {i:Ins} (hi:zI i):zH c 0 67 0 K (K.unlock c t i):=by
 have hnt:=h.cf.nt;have hw:=zey h ht;unfold Kn.unlock;dsimp only
 by_cases he:(zi K.L t i.k).2.1=0
 ·rw [if_neg (Classical.not_not.2 he)];have hm:=zbj h.L.fit.m he;have h1:=z5S h ht (i:=i);have ho:=z2q h.L t i.k;have h2:Inv c { K with L:=zE K.L t i.k }:=zah h (z1N h.L t i.k) (by rw [ho.1]) ho.2 fun u hu e=>by
   rcases z2b h.L t i.k e with f | f
   ·exact h.Lw u hu f.1
   ·exact h.Lw u hu f.1
  have g1:=z4n (z0v h2 hw i.a (v:=0) ⟨by simp,by simp⟩) (t:=t) (by omega) hm (z4v h t i.k);have g3:zH c 0 3 0 K ((({ K with L:=zE K.L t i.k }).put t i.a 0).handed c t i.k (zi K.L t i.k).1):=zH.pre g1 (zQ _ _) (z0T _ _) (z0S _ _);exact (g3.trans (z3B h1)).le (by omega) (by omega) (by omega)
 ·rw [if_pos he];exact (zR h hw hi (z55 _ _ _)).le (by omega) (by omega) (by omega)
theorem zdJ (h:Inv c K) {t:Nat} (ht:t<c.ts.length) {i:Ins} (hi:zI i):zH c 0 1 0 K (K.await c t i):=by
 have hnt:=h.cf.nt;have hns:=h.cf.ns;have hk0:=hi.k.1;have hw:=zey h ht;unfold Kn.await;dsimp only
 split
 ·exact zR h hw hi (by omega)
 ·rename_i hs
  have hok:=z5H (h.sm i.k.toNat (by omega))
  split
  ·refine zH.pre (zu h.cf (kd:=15) (by decide) (z1s ⟨?_,?_,?_⟩ (by decide))) (zQ _ _) (z0T _ _) (z0S _ _)
   ·simp [shp,win];omega
   ·simp [shp,win];omega
   ·have:=hok.hi;simp [shp,win];omega
  ·split
   ·refine zR h hw hi ?_;unfold z3t;split<;>simp
   ·split
    ·exact (z2L h.cf (by omega) (by omega)).post rfl rfl rfl
    ·exact zR h hw hi (z1A t i)
theorem zdL (h:Inv c K) {t:Nat} (ht:t<c.ts.length) {i:Ins} (hi:zI i):zH c 0 1 0 K (K.sleep c t i):=by
 have hnt:=h.cf.nt;unfold Kn.sleep;dsimp only
 split
 ·exact zH.refl.put
 ·split
  ·exact zR h (zey h ht) hi (by omega)
  ·exact zH.pre (z2L h.cf (by omega) (by omega)) rfl rfl rfl
theorem zf1 (h:Inv c K) {t:Nat} (ht:t<c.ts.length):zH c 0 2 0 K (K.next c t):=by
 have hnt:=h.cf.nt;unfold Kn.next;dsimp only;have g1:zH c 0 1 0 K (K.tell c 8 t 0 (K.T t).job):=zu h.cf (by decide) (z1s ⟨by simp [shp,win];omega,rfl,rfl⟩ (by decide))
 split
 ·have g3:=zu (K:=(K.tell c 8 t 0 (K.T t).job).setT t { K.T t with late:=(K.T t).late-1,job:=((K.T t).job+1)%4294967296 }) h.cf (kd:=6) (a:=t) (b:=0) (v:=((K.T t).job+1)%4294967296) (by decide) (z1s ⟨by simp [shp,win];omega,rfl,rfl⟩ (by decide));have g4:zH c 0 1 0 (K.tell c 8 t 0 (K.T t).job) _:=zH.pre g3 rfl rfl rfl;exact (g1.trans g4).le (by omega) (by omega) (by omega)
 ·exact zH.ql g1 rfl rfl rfl (by omega) (by omega) (by omega)
theorem zbf (who:Nat) (i:Ins):0≤K.timerE c who i∧K.timerE c who i≤16:=by
 unfold Kn.timerE;repeat' split
 all_goals simp
theorem zdM (h:Inv c K) {who:Nat} (hw:z3u c who) {i:Ins} (hi:zI i):zH c 0 1 0 K (K.timer c who i):=by
 have hk0:=hi.k.1;have w80:=z25 h hw;have hnm:=h.cf.nm;unfold Kn.timer;dsimp only
 split
 ·exact zR h hw hi (zbf who i)
 ·rename_i he
  have hk:i.k<c.timers.length:=by
   apply Classical.byContradiction;intro hn;apply he;unfold Kn.timerE;rw [if_pos (by omega)]
   decide
  split
  ·exact zH.pre (zu h.cf (kd:=19) (by decide) (z1s ⟨by simp [shp,win];omega,by simp [shp,win];omega,rfl⟩ (by decide))) (zQ _ _) (z0T _ _) (z0S _ _)
  ·exact zH.pre (zu h.cf (kd:=19) (by decide) (z1s ⟨by simp [shp,win];omega,by simp [shp,win];omega,rfl⟩ (by decide))) (zQ _ _) (z0T _ _) (z0S _ _)
theorem za7 {i:Ins} (h:z2K i=0) (ho:i.op=21∨i.op=22):i.k<16:=by
 unfold z2K at h
 split at h
 ·omega
 ·split at h
  ·rename_i h2
   unfold z8e at h2;simp only [Bool.and_eq_true] at h2;have h3:=h2.2;rw [if_neg (by omega),if_pos ho] at h3;exact of_decide_eq_true h3
  ·omega
theorem z6U (h:Inv c K) {who:Nat} (hw:z3u c who) (hc:who<64→z20 c K who) {i:Ins} (hi:zI i) (hm:64≤who→i.op=27∨i.op=28→i.d=1) {value:Int}:zH c 0 3 0 K (K.shared c who i value):=by
 have hk0:=hi.k.1;have w80:=z25 h hw;unfold Kn.shared
 split
 ·rename_i e
  have hp:=za7 hi.form (.inl e);exact zH.pl (zu h.cf (by decide) (z1s ⟨by simp [shp,win];omega,by simp [shp,win];omega,rfl⟩ (by decide))) (zQ _ _) (z0T _ _) (z0S _ _) (by omega) (by omega) (by omega)
 split
 ·rename_i e
  have hp:=za7 hi.form (.inr e);exact (zu h.cf (kd:=20) (by decide) (z1s ⟨by simp [shp,win];omega,by simp [shp,win];omega,rfl⟩ (by decide))).le (by omega) (by omega) (by omega)
 split
 ·exact zH.set rfl rfl rfl
 split
 ·exact zH.refl.put
 split
 ·exact zH.refl.put
 split
 ·split
  ·exact (zR h hw hi (by omega)).le (by omega) (by omega) (by omega)
  ·rename_i hlt
   split
   ·refine (zR h hw hi ?_).le (by omega) (by omega) (by omega);unfold Kn.postE postE;repeat' split
    all_goals simp
   ·exact ((z6S h (who:=who) (by omega) (s:=i.k.toNat) (by omega)).put).le (by omega) (by omega) (by omega)
 split
 ·rename_i e
  split
  ·exact (zR h hw hi (by omega)).le (by omega) (by omega) (by omega)
  ·split
   ·exact zf4 h hw hc hi (fun a=>hm a e) (by omega)
   ·exact zf3 h hw hc hi (fun a=>hm a e) (by omega)
 split
 ·exact (zdM h hw hi).le (by omega) (by omega) (by omega)
 ·exact zH.refl
theorem zeN {i:Ins} (hi:zI i) (h:i.op=31∨i.op=34):i.d=0:=by
 refine zeV hi.form ?_
 rcases h with e | e<;>rw [e]<;>rfl
theorem z7U (h:Inv c K) {t:Nat} (ht:t<c.ts.length) (hc:z20 c K t) {i:Ins} (hi:zI i) {value:Int}:zH c 0 67 0 K (K.serveTask c t i value):=by
 have hnt:=h.cf.nt;unfold Kn.serveTask
 split
 ·rename_i e;exact (zf0 h ht hc hi (zeN hi (.inl e))).le (by omega) (by omega) (by omega)
 split
 ·exact zby h ht hi
 split
 ·exact (zdJ h ht hi).le (by omega) (by omega) (by omega)
 split
 ·exact (zdL h ht hi).le (by omega) (by omega) (by omega)
 split
 ·exact zH.set rfl rfl rfl
 split
 ·exact (zf1 h ht).le (by omega) (by omega) (by omega)
 ·exact (z6U h (zey h ht) (fun _=>hc) hi (fun a=>by omega)).le (by omega) (by omega) (by omega)
theorem z0s {i:Ins} (hi:zI i):1≤zT i∧zT i≤1000:=by
 have hf:=hi.form;have h20:i.op=20→1≤i.k∧i.k≤1000:=fun e=>by
  unfold z2K at hf
  split at hf
  ·omega
  ·split at hf
   ·rename_i h2
    unfold z8e at h2;simp only [Bool.and_eq_true] at h2;have h3:=h2.2;rw [if_pos e] at h3;exact of_decide_eq_true h3
   ·omega
 unfold zT;rw [if_neg (Classical.not_not.2 hf)]
 repeat' split
 all_goals first | omega | (rename_i e;have:=h20 e;omega)
theorem z3x (i:Ins) (x:Cx):0≤(doI i x).1∧(doI i x).1≤16:=by
 unfold doI
 repeat' split
 all_goals first | (simp;done) | (dsimp only;split<;>simp)
theorem z0Z {who:Nat} (x:Cx):(K.putCx who x).told=K.told∧(K.putCx who x).cycle=K.cycle∧(K.putCx who x).count=K.count:=by
 unfold Kn.putCx;split<;>exact ⟨rfl,rfl,rfl⟩
end
end Go.Proofs.YtgiiidminlhbpaaGreatDoor
