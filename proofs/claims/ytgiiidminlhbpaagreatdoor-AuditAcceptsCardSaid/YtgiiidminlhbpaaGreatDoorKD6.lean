/-
  Parts of the proof: KernB ReadyB ReadyC KernJ KernK KernV.
-/
import Derived.Test.YtgiiidminlhbpaaGreatDoorKD5
set_option linter.unusedVariables false
set_option linter.unusedSimpArgs false
set_option maxHeartbeats 32000000
set_option maxRecDepth 100000
namespace Go.Proofs.YtgiiidminlhbpaaGreatDoor
open Go.RowKit Go.Sx Go.Dl Go.Lk Go.Rq Go.Au
theorem za {P Q R:HP} {b o:Nat} {v:Value} (e:P=Q*R) (h:zC Q b o v):zC P b o v :=
 ⟨fun {w0 w F} hs=>h.cell (F:=R*F) (hs.perm (by rw [e];ac_rfl)),fun {w0 w F} hs=>h.free (F:=R*F) (hs.perm (by rw [e];ac_rfl))⟩
theorem z0e {P P' Q Q' R:HP} {b o:Nat} {v:Value} (e:P=Q*R) (e':P'=Q'*R) (h:Upd Q b o v Q'):Upd P b o v P' :=
 ⟨fun {w0 w F} hs=>(h.upd (F:=R*F) (hs.perm (by rw [e];ac_rfl))).perm (by rw [e'];ac_rfl)⟩
theorem z1d {P Q R:HP} {b o:Nat} {v:Value} (e:P=R*Q) (h:zC Q b o v):zC P b o v:=za (e.trans (z0W _ _)) h
theorem z2G {α:Type} {f:α→HP} {b o:Nat} {v:Value} (h:∀ a,zC (f a) b o v):zC (ex f) b o v :=
 ⟨fun {w0 w F} hs=>let ⟨a,hs⟩:=hs.ex_out; (h a).cell hs,fun {w0 w F} hs=>let ⟨a,hs⟩:=hs.ex_out; (h a).free hs⟩
theorem z3Y {α:Type} {f f':α→HP} {b o:Nat} {v:Value} (h:∀ a, ∃ a',Upd (f a) b o v (f' a')):Upd (ex f) b o v (ex f') :=
 ⟨fun {w0 w F} hs=>let ⟨a,hs⟩:=hs.ex_out;let ⟨a',u⟩:=h a;Sat.ex_in a' (u.upd hs)⟩
theorem zg {b o:Nat} {xs:List Value} {j:Nat} {v:Value} (h:xs[j]?=some v):zC (pts b o xs) b (o+j) v :=
 ⟨fun hs=>(z0z hs h).1,fun hs=>(z0z hs h).2⟩
theorem z0w {b o:Nat} {xs ys:List Value} {j:Nat} {v:Value} (h:j<xs.length) (e:ys=xs.set j v):Upd (pts b o xs) b (o+j) v (pts b o ys) :=
 ⟨fun hs=>by subst e;exact hs.set h v⟩
theorem zgO {P P' Q Q' R:HP} {b o:Nat} {v:Value} (e:P=R*Q) (e':P'=R*Q') (h:Upd Q b o v Q'):Upd P b o v P':=z0e (e.trans (z0W _ _)) (e'.trans (z0W _ _)) h
theorem z0c (b:Nat) (x:Fx) (c:Cf) (K:Kn) (t:Nat):knP b x c ((K.setT t (K.T t)).wTm (upd K.tm t (K.tm t)))=knP b x c K:=by
 have e:(K.setT t (K.T t)).wTm (upd K.tm t (K.tm t))=K:=by unfold Kn.setT Kn.wTm;simp only [z10]
 rw [e]
theorem z2n (b:Nat) (x:Fx) (c:Cf) (K:Kn) (t:Nat) (s:Ts):knP b x c ((K.setT t s).wTm (upd K.tm t (K.tm t)))=knP b x c (K.setT t s):=by
 have e:(K.setT t s).wTm (upd K.tm t (K.tm t))=K.setT t s:=by unfold Kn.setT Kn.wTm;simp only [z10]
 rw [e]
theorem z2C (b:Nat) (x:Fx) (c:Cf) (K:Kn) (t:Nat):knP b x c (K.wSm (upd K.sm t (K.sm t)))=knP b x c K:=by rw [z10];rfl
theorem z0I (b:Nat) (x:Fx) (c:Cf) (K:Kn) (t:Nat):knP b x c (K.wMl (upd K.ml t (K.ml t)))=knP b x c K:=by rw [z10];rfl
theorem zdb (b:Nat) (x:Fx) (c:Cf) (K:Kn) (t:Nat):knP b x c (K.wMems (upd K.mems t (K.mems t)))=knP b x c K:=by rw [z10];rfl
theorem zeM {a:Int} {r:R8} {v:Value} {n:Nat} (h:n<8):(cxL a r v)[1+n]?=some (.int .u32 (r.get n)):=by
 rw [Nat.add_comm,List.getElem?_cons_succ,List.getElem?_append_left (by simpa [R8.cells] using h)];exact r.cell h
theorem zeL {a:Int} {r:R8} {v:Value} {n:Nat} {u:Int} (h:n<8):cxL a (r.set n u) v=(cxL a r v).set (1+n) (.int .u32 u):=by
 rw [Nat.add_comm,List.set_cons_succ,List.set_append_left _ _ (by simpa [R8.cells] using h),← r.cells_set h]
section
variable (b:Nat) (x:Fx) (c:Cf) (K:Kn)
instance (priority:=1300):zC (knP b x c K) b 0 (.int .u64 K.count):=let ⟨R,h⟩:=z6r b x c K;za (h K.count K.cycle) inferInstance
instance (priority:=1300):zC (knP b x c K) b 1 (.int .u64 K.cycle):=let ⟨R,h⟩:=z6r b x c K;za (h K.count K.cycle) inferInstance
instance (priority:=1300) (n:Int):Upd (knP b x c K) b 0 (.int .u64 n) (knP b x c (K.wCount n)):=let ⟨R,h⟩:=z6r b x c K;z0e (h K.count K.cycle) (h n K.cycle) inferInstance
instance (priority:=1300) (n:Int):Upd (knP b x c K) b 1 (.int .u64 n) (knP b x c (K.wCycle n)):=let ⟨R,h⟩:=z6r b x c K;z0e (h K.count K.cycle) (h K.count n) inferInstance
instance (priority:=1300):zC (knP b x c K) b 259 (.int .i64 c.table):=let ⟨R,h⟩:=znp b x c K;za h inferInstance
instance (priority:=1300):zC (knP b x c K) b 518 (x.c.ct.v c.ts.length):=let ⟨R,h⟩:=z1Y b x c K;za h inferInstance
instance (priority:=1300):zC (knP b x c K) b 519 (x.c.cl.v c.ls.length):=let ⟨R,h⟩:=z1Y b x c K;za h inferInstance
instance (priority:=1300):zC (knP b x c K) b 520 (.int .i64 c.mutexes):=let ⟨R,h⟩:=z1Y b x c K;za h inferInstance
instance (priority:=1300):zC (knP b x c K) b 523 (x.c.cm.v c.timers.length):=let ⟨R,h⟩:=z1Y b x c K;za h inferInstance
instance (priority:=1300):zC (knP b x c K) b 530 (.int .i64 K.run):=let ⟨R,h⟩:=zjf b x c K;za (h K.run) inferInstance
instance (priority:=1300) (n:Int):Upd (knP b x c K) b 530 (.int .i64 n) (knP b x c (K.wRun n)):=let ⟨R,h⟩:=zjf b x c K;z0e (h K.run) (h n) inferInstance
instance (priority:=1300):zC (knP b x c K) b 531 (.int .i64 K.iat):=let ⟨R,h⟩:=z0O b x c K;za (h K.iat K.irg) (z2G fun v=>zg (j:=0) rfl)
instance (priority:=1300):zC (knP b x c K) b 532 (.int .u32 K.irg.r0):=let ⟨R,h⟩:=z0O b x c K;za (h K.iat K.irg) (z2G fun v=>zg (j:=1) rfl)
instance (priority:=1300):zC (knP b x c K) b 533 (.int .u32 K.irg.r1):=let ⟨R,h⟩:=z0O b x c K;za (h K.iat K.irg) (z2G fun v=>zg (j:=2) rfl)
instance (priority:=1300):zC (knP b x c K) b 534 (.int .u32 K.irg.r2):=let ⟨R,h⟩:=z0O b x c K;za (h K.iat K.irg) (z2G fun v=>zg (j:=3) rfl)
instance (priority:=1300):zC (knP b x c K) b 535 (.int .u32 K.irg.r3):=let ⟨R,h⟩:=z0O b x c K;za (h K.iat K.irg) (z2G fun v=>zg (j:=4) rfl)
instance (priority:=1300):zC (knP b x c K) b 536 (.int .u32 K.irg.r4):=let ⟨R,h⟩:=z0O b x c K;za (h K.iat K.irg) (z2G fun v=>zg (j:=5) rfl)
instance (priority:=1300):zC (knP b x c K) b 537 (.int .u32 K.irg.r5):=let ⟨R,h⟩:=z0O b x c K;za (h K.iat K.irg) (z2G fun v=>zg (j:=6) rfl)
instance (priority:=1300):zC (knP b x c K) b 538 (.int .u32 K.irg.r6):=let ⟨R,h⟩:=z0O b x c K;za (h K.iat K.irg) (z2G fun v=>zg (j:=7) rfl)
instance (priority:=1300):zC (knP b x c K) b 539 (.int .u32 K.irg.r7):=let ⟨R,h⟩:=z0O b x c K;za (h K.iat K.irg) (z2G fun v=>zg (j:=8) rfl)
instance (priority:=1300) (n:Int):Upd (knP b x c K) b 531 (.int .i64 n) (knP b x c (K.wIat n)):=let ⟨R,h⟩:=z0O b x c K;z0e (h K.iat K.irg) (h n K.irg) (z3Y fun v=>⟨v,z0w (j:=0) (by simp [R8.cells]) rfl⟩)
instance (priority:=1300) (n:Int):Upd (knP b x c K) b 532 (.int .u32 n) (knP b x c (K.wIrg { K.irg with r0:=n })):=let ⟨R,h⟩:=z0O b x c K;z0e (h K.iat K.irg) (h K.iat { K.irg with r0:=n }) (z3Y fun v=>⟨v,z0w (j:=1) (by simp [R8.cells]) rfl⟩)
instance (priority:=1300) (n:Int):Upd (knP b x c K) b 533 (.int .u32 n) (knP b x c (K.wIrg { K.irg with r1:=n })):=let ⟨R,h⟩:=z0O b x c K;z0e (h K.iat K.irg) (h K.iat { K.irg with r1:=n }) (z3Y fun v=>⟨v,z0w (j:=2) (by simp [R8.cells]) rfl⟩)
instance (priority:=1300) (n:Int):Upd (knP b x c K) b 534 (.int .u32 n) (knP b x c (K.wIrg { K.irg with r2:=n })):=let ⟨R,h⟩:=z0O b x c K;z0e (h K.iat K.irg) (h K.iat { K.irg with r2:=n }) (z3Y fun v=>⟨v,z0w (j:=3) (by simp [R8.cells]) rfl⟩)
instance (priority:=1300) (n:Int):Upd (knP b x c K) b 535 (.int .u32 n) (knP b x c (K.wIrg { K.irg with r3:=n })):=let ⟨R,h⟩:=z0O b x c K;z0e (h K.iat K.irg) (h K.iat { K.irg with r3:=n }) (z3Y fun v=>⟨v,z0w (j:=4) (by simp [R8.cells]) rfl⟩)
instance (priority:=1300) (n:Int):Upd (knP b x c K) b 536 (.int .u32 n) (knP b x c (K.wIrg { K.irg with r4:=n })):=let ⟨R,h⟩:=z0O b x c K;z0e (h K.iat K.irg) (h K.iat { K.irg with r4:=n }) (z3Y fun v=>⟨v,z0w (j:=5) (by simp [R8.cells]) rfl⟩)
instance (priority:=1300) (n:Int):Upd (knP b x c K) b 537 (.int .u32 n) (knP b x c (K.wIrg { K.irg with r5:=n })):=let ⟨R,h⟩:=z0O b x c K;z0e (h K.iat K.irg) (h K.iat { K.irg with r5:=n }) (z3Y fun v=>⟨v,z0w (j:=6) (by simp [R8.cells]) rfl⟩)
instance (priority:=1300) (n:Int):Upd (knP b x c K) b 538 (.int .u32 n) (knP b x c (K.wIrg { K.irg with r6:=n })):=let ⟨R,h⟩:=z0O b x c K;z0e (h K.iat K.irg) (h K.iat { K.irg with r6:=n }) (z3Y fun v=>⟨v,z0w (j:=7) (by simp [R8.cells]) rfl⟩)
instance (priority:=1300) (n:Int):Upd (knP b x c K) b 539 (.int .u32 n) (knP b x c (K.wIrg { K.irg with r7:=n })):=let ⟨R,h⟩:=z0O b x c K;z0e (h K.iat K.irg) (h K.iat { K.irg with r7:=n }) (z3Y fun v=>⟨v,z0w (j:=8) (by simp [R8.cells]) rfl⟩)
instance (priority:=1300) (ua:Option Addr) (un uc:Nat):Upd (knP b x c K) b 540 (.slice ua un uc) (knP b x c K):=let ⟨R,h⟩:=z0O b x c K;z0e (h K.iat K.irg) (h K.iat K.irg) (z3Y fun v=>⟨⟨ua,un,uc⟩,z0w (j:=9) (by simp [R8.cells]) rfl⟩)
instance (priority:=1300):zC (knP b x c K) b 541 (x.mm.v c.ls.length):=let ⟨R,h⟩:=z81 b x c K;za (h K.reads K.stopped) inferInstance
instance (priority:=1300):zC (knP b x c K) b 542 (x.ta.v c.ts.length):=let ⟨R,h⟩:=z81 b x c K;za (h K.reads K.stopped) inferInstance
instance (priority:=1300):zC (knP b x c K) b 543 (.pointer (some ⟨x.lk,0,none⟩)):=let ⟨R,h⟩:=z81 b x c K;za (h K.reads K.stopped) inferInstance
instance (priority:=1300):zC (knP b x c K) b 544 (x.sa.v c.sems.length):=let ⟨R,h⟩:=z81 b x c K;za (h K.reads K.stopped) inferInstance
instance (priority:=1300):zC (knP b x c K) b 545 (x.qa.v c.queues.length):=let ⟨R,h⟩:=z81 b x c K;za (h K.reads K.stopped) inferInstance
instance (priority:=1300):zC (knP b x c K) b 546 (.pointer (some ⟨x.ln,0,none⟩)):=let ⟨R,h⟩:=z81 b x c K;za (h K.reads K.stopped) inferInstance
instance (priority:=1300):zC (knP b x c K) b 547 (.int .u64 K.reads):=let ⟨R,h⟩:=z81 b x c K;za (h K.reads K.stopped) inferInstance
instance (priority:=1300):zC (knP b x c K) b 548 (.bool K.stopped):=let ⟨R,h⟩:=z81 b x c K;za (h K.reads K.stopped) inferInstance
instance (priority:=1300) (n:Int):Upd (knP b x c K) b 547 (.int .u64 n) (knP b x c (K.wReads n)):=let ⟨R,h⟩:=z81 b x c K;z0e (h K.reads K.stopped) (h n K.stopped) inferInstance
instance (priority:=1300) (z:Bool):Upd (knP b x c K) b 548 (.bool z) (knP b x c (K.wStopped z)):=let ⟨R,h⟩:=z81 b x c K;z0e (h K.reads K.stopped) (h K.reads z) inferInstance
end
section
variable (b:Nat) (x:Fx) (c:Cf) (K:Kn) (t:Nat)
instance (priority:=1300) [l:Lt t c.ts.length]:zC (knP b x c K) x.ta.b (x.ta.o+t*15) (.int .i64 (K.T t).st):=let ⟨R,h⟩:=z0P (b:=b) (x:=x) (K:=K) l.lt;za (z0c b x c K t ▸ h (K.T t) (K.tm t)) (za rfl (zg (j:=0) rfl))
instance (priority:=1300) (n:Int) [l:Lt t c.ts.length]:Upd (knP b x c K) x.ta.b (x.ta.o+t*15) (.int .i64 n) (knP b x c (K.wSt t n)):=let ⟨R,h⟩:=z0P (b:=b) (x:=x) (K:=K) l.lt;z0e (z0c b x c K t ▸ h (K.T t) (K.tm t)) (z2n b x c K t _ ▸ h { K.T t with st:=n } (K.tm t)) (z0e rfl rfl (z0w (j:=0) (by simp) rfl))
instance (priority:=1300) [l:Lt t c.ts.length]:zC (knP b x c K) x.ta.b (x.ta.o+t*15+1) (.int .i64 (K.T t).lev):=let ⟨R,h⟩:=z0P (b:=b) (x:=x) (K:=K) l.lt;za (z0c b x c K t ▸ h (K.T t) (K.tm t)) (za rfl (zg (j:=1) rfl))
instance (priority:=1300) (n:Int) [l:Lt t c.ts.length]:Upd (knP b x c K) x.ta.b (x.ta.o+t*15+1) (.int .i64 n) (knP b x c (K.wLev t n)):=let ⟨R,h⟩:=z0P (b:=b) (x:=x) (K:=K) l.lt;z0e (z0c b x c K t ▸ h (K.T t) (K.tm t)) (z2n b x c K t _ ▸ h { K.T t with lev:=n } (K.tm t)) (z0e rfl rfl (z0w (j:=1) (by simp) rfl))
instance (priority:=1300) [l:Lt t c.ts.length]:zC (knP b x c K) x.ta.b (x.ta.o+t*15+2) (.int .i64 (K.T t).on):=let ⟨R,h⟩:=z0P (b:=b) (x:=x) (K:=K) l.lt;za (z0c b x c K t ▸ h (K.T t) (K.tm t)) (za rfl (zg (j:=2) rfl))
instance (priority:=1300) (n:Int) [l:Lt t c.ts.length]:Upd (knP b x c K) x.ta.b (x.ta.o+t*15+2) (.int .i64 n) (knP b x c (K.wOn t n)):=let ⟨R,h⟩:=z0P (b:=b) (x:=x) (K:=K) l.lt;z0e (z0c b x c K t ▸ h (K.T t) (K.tm t)) (z2n b x c K t _ ▸ h { K.T t with on:=n } (K.tm t)) (z0e rfl rfl (z0w (j:=2) (by simp) rfl))
instance (priority:=1300) [l:Lt t c.ts.length]:zC (knP b x c K) x.ta.b (x.ta.o+t*15+3) (.int .i64 (K.T t).late):=let ⟨R,h⟩:=z0P (b:=b) (x:=x) (K:=K) l.lt;za (z0c b x c K t ▸ h (K.T t) (K.tm t)) (za rfl (zg (j:=3) rfl))
instance (priority:=1300) (n:Int) [l:Lt t c.ts.length]:Upd (knP b x c K) x.ta.b (x.ta.o+t*15+3) (.int .i64 n) (knP b x c (K.wLate t n)):=let ⟨R,h⟩:=z0P (b:=b) (x:=x) (K:=K) l.lt;z0e (z0c b x c K t ▸ h (K.T t) (K.tm t)) (z2n b x c K t _ ▸ h { K.T t with late:=n } (K.tm t)) (z0e rfl rfl (z0w (j:=3) (by simp) rfl))
instance (priority:=1300) [l:Lt t c.ts.length]:zC (knP b x c K) x.ta.b (x.ta.o+t*15+4) (.int .u32 (K.T t).job):=let ⟨R,h⟩:=z0P (b:=b) (x:=x) (K:=K) l.lt;za (z0c b x c K t ▸ h (K.T t) (K.tm t)) (za rfl (zg (j:=4) rfl))
instance (priority:=1300) (n:Int) [l:Lt t c.ts.length]:Upd (knP b x c K) x.ta.b (x.ta.o+t*15+4) (.int .u32 n) (knP b x c (K.wJob t n)):=let ⟨R,h⟩:=z0P (b:=b) (x:=x) (K:=K) l.lt;z0e (z0c b x c K t ▸ h (K.T t) (K.tm t)) (z2n b x c K t _ ▸ h { K.T t with job:=n } (K.tm t)) (z0e rfl rfl (z0w (j:=4) (by simp) rfl))
instance (priority:=1300) [l:Lt t c.ts.length]:zC (knP b x c K) x.ta.b (x.ta.o+t*15+5) (.int .i64 (K.T t).at_):=let ⟨R,h⟩:=z0P (b:=b) (x:=x) (K:=K) l.lt;za (z0c b x c K t ▸ h (K.T t) (K.tm t)) (z1d rfl (za rfl (zg (j:=0) rfl)))
instance (priority:=1300) (n:Int) [l:Lt t c.ts.length]:Upd (knP b x c K) x.ta.b (x.ta.o+t*15+5) (.int .i64 n) (knP b x c (K.wAt t n)):=let ⟨R,h⟩:=z0P (b:=b) (x:=x) (K:=K) l.lt;z0e (z0c b x c K t ▸ h (K.T t) (K.tm t)) (z2n b x c K t _ ▸ h { K.T t with at_:=n } (K.tm t)) (zgO rfl rfl (z0e rfl rfl (z0w (j:=0) (by simp [R8.cells]) rfl)))
theorem zdl {n:Nat} (l:t<c.ts.length) (hn:n<8):zC (knP b x c K) x.ta.b (x.ta.o+t*15+5+(1+n)) (.int .u32 ((K.T t).rg.get n)) :=
 let ⟨R,h⟩:=z0P (b:=b) (x:=x) (K:=K) l;za (z0c b x c K t ▸ h (K.T t) (K.tm t)) (z1d rfl (za rfl (zg (j:=1+n) (zeM hn))))
theorem zgj {n:Nat} (v:Int) (l:t<c.ts.length) (hn:n<8):Upd (knP b x c K) x.ta.b (x.ta.o+t*15+5+(1+n)) (.int .u32 v) (knP b x c (K.wReg t n v)) :=
 let ⟨R,h⟩:=z0P (b:=b) (x:=x) (K:=K) l;z0e (z0c b x c K t ▸ h (K.T t) (K.tm t)) (z2n b x c K t _ ▸ h { K.T t with rg:=(K.T t).rg.set n v } (K.tm t)) (zgO rfl rfl (z0e rfl rfl (z0w (j:=1+n) (by simp [R8.cells];omega) (zeL hn))))
theorem zfe {n:Nat} (hn:n<8):zC (knP b x c K) b (531+(1+n)) (.int .u32 (K.irg.get n)) :=
 let ⟨R,h⟩:=z0O b x c K;za (h K.iat K.irg) (z2G fun v=>zg (j:=1+n) (zeM hn))
theorem zht {n:Nat} (v:Int) (hn:n<8):Upd (knP b x c K) b (531+(1+n)) (.int .u32 v) (knP b x c (K.wIrg (K.irg.set n v))) :=
 let ⟨R,h⟩:=z0O b x c K;z0e (h K.iat K.irg) (h K.iat (K.irg.set n v)) (z3Y fun u=>⟨u,z0w (j:=1+n) (by simp [R8.cells];omega) (zeL hn)⟩)
instance (priority:=1250) (n:Nat) [l:Lt t c.ts.length] [m:Lt n 8]:zC (knP b x c K) x.ta.b (x.ta.o+t*15+5+1+n) (.int .u32 ((K.T t).rg.get n)):=by
 have:=zdl b x c K t l.lt m.lt;rw [← Nat.add_assoc] at this;exact this
instance (priority:=1250) (n:Nat) (v:Int) [l:Lt t c.ts.length] [m:Lt n 8]:Upd (knP b x c K) x.ta.b (x.ta.o+t*15+5+1+n) (.int .u32 v) (knP b x c (K.wReg t n v)):=by
 have:=zgj b x c K t v l.lt m.lt;rw [← Nat.add_assoc] at this;exact this
class z4b (b:Nat) (x:Fx) (c:Cf) (cb co:Nat) (who:outParam Nat):Prop where
 is:(who<64∧who<c.ts.length∧cb=x.ta.b∧co=x.ta.o+who*15+5)∨(64≤who∧who-64<c.ls.length∧cb=b∧co=531)
variable (cb co who:Nat)
instance (priority:=1200) (n:Nat) [h:z4b b x c cb co who] [m:Lt n 8]:zC (knP b x c K) cb (co+1+n) (.int .u32 (K.reg who n)):=by
 unfold Kn.reg;rw [Nat.add_assoc]
 rcases h.is with ⟨h1,h2,rfl,rfl⟩ | ⟨h1,h2,rfl,rfl⟩
 ·rw [if_pos h1];exact zdl b x c K who h2 m.lt
 ·rw [if_neg (by omega)];exact zfe cb x c K m.lt
instance (priority:=1200) (n:Nat) (v:Int) [h:z4b b x c cb co who] [m:Lt n 8]:Upd (knP b x c K) cb (co+1+n) (.int .u32 v) (knP b x c (K.put who n v)):=by
 unfold Kn.put;rw [Nat.add_assoc]
 rcases h.is with ⟨h1,h2,rfl,rfl⟩ | ⟨h1,h2,rfl,rfl⟩
 ·rw [if_pos h1];exact zgj b x c K who v h2 m.lt
 ·rw [if_neg (by omega)];exact zht cb x c K v m.lt
instance (priority:=1300) [l:Lt t c.ts.length]:zC (knP b x c K) x.c.ct.b (x.c.ct.o+t*6) (.int .i64 (tcg c t).lev):=let ⟨R,h⟩:=z68 (b:=b) (x:=x) (K:=K) l.lt;za h (zg (j:=0) rfl)
instance (priority:=1300) [l:Lt t c.ts.length]:zC (knP b x c K) x.c.ct.b (x.c.ct.o+t*6+2) (.int .i64 (tcg c t).per):=let ⟨R,h⟩:=z68 (b:=b) (x:=x) (K:=K) l.lt;za h (zg (j:=2) rfl)
instance (priority:=1300) [l:Lt t c.ts.length]:zC (knP b x c K) x.c.ct.b (x.c.ct.o+t*6+5) ((x.c.tv t).v (tcg c t).code.length):=let ⟨R,h⟩:=z68 (b:=b) (x:=x) (K:=K) l.lt;za h (zg (j:=5) rfl)
instance (priority:=1300) [l:Lt t c.ls.length]:zC (knP b x c K) x.c.cl.b (x.c.cl.o+t*2) (.int .i64 (lcg c t).mem):=let ⟨R,h⟩:=zay (b:=b) (x:=x) (K:=K) l.lt;za h (zg (j:=0) rfl)
instance (priority:=1300) [l:Lt t c.ls.length]:zC (knP b x c K) x.c.cl.b (x.c.cl.o+t*2+1) ((x.c.lv t).v (lcg c t).code.length):=let ⟨R,h⟩:=zay (b:=b) (x:=x) (K:=K) l.lt;za h (zg (j:=1) rfl)
theorem z3o {l:List Ins} {n:Nat} (h:n<l.length) (f:Nat) (hf:f<6) {v:Value} (hv:(za3.enc (zM l n))[f]?=some v):(cellsOf l)[n*6+f]?=some v:=by
 rw [z0Y h hf];exact hv
instance (priority:=1300) (n:Nat) [l:Lt t c.ts.length] [m:Lt n (tcg c t).code.length]:zC (knP b x c K) (x.c.tv t).b ((x.c.tv t).o+n*6) (.int .i64 (zM (tcg c t).code n).op):=let ⟨R,h⟩:=z68 (b:=b) (x:=x) (K:=K) l.lt;z1d h (za rfl (by have:=zg (b:=(x.c.tv t).b) (o:=(x.c.tv t).o) (z3o m.lt 0 (by decide) rfl);rw [← Nat.add_assoc] at this;exact this))
instance (priority:=1300) (n:Nat) [l:Lt t c.ls.length] [m:Lt n (lcg c t).code.length]:zC (knP b x c K) (x.c.lv t).b ((x.c.lv t).o+n*6) (.int .i64 (zM (lcg c t).code n).op):=let ⟨R,h⟩:=zay (b:=b) (x:=x) (K:=K) l.lt;z1d h (za rfl (by have:=zg (b:=(x.c.lv t).b) (o:=(x.c.lv t).o) (z3o m.lt 0 (by decide) rfl);rw [← Nat.add_assoc] at this;exact this))
instance (priority:=1300) (n:Nat) [l:Lt t c.ts.length] [m:Lt n (tcg c t).code.length]:zC (knP b x c K) (x.c.tv t).b ((x.c.tv t).o+n*6+1) (.int .i64 (zM (tcg c t).code n).a):=let ⟨R,h⟩:=z68 (b:=b) (x:=x) (K:=K) l.lt;z1d h (za rfl (by have:=zg (b:=(x.c.tv t).b) (o:=(x.c.tv t).o) (z3o m.lt 1 (by decide) rfl);rw [← Nat.add_assoc] at this;exact this))
instance (priority:=1300) (n:Nat) [l:Lt t c.ls.length] [m:Lt n (lcg c t).code.length]:zC (knP b x c K) (x.c.lv t).b ((x.c.lv t).o+n*6+1) (.int .i64 (zM (lcg c t).code n).a):=let ⟨R,h⟩:=zay (b:=b) (x:=x) (K:=K) l.lt;z1d h (za rfl (by have:=zg (b:=(x.c.lv t).b) (o:=(x.c.lv t).o) (z3o m.lt 1 (by decide) rfl);rw [← Nat.add_assoc] at this;exact this))
instance (priority:=1300) (n:Nat) [l:Lt t c.ts.length] [m:Lt n (tcg c t).code.length]:zC (knP b x c K) (x.c.tv t).b ((x.c.tv t).o+n*6+2) (.int .i64 (zM (tcg c t).code n).b):=let ⟨R,h⟩:=z68 (b:=b) (x:=x) (K:=K) l.lt;z1d h (za rfl (by have:=zg (b:=(x.c.tv t).b) (o:=(x.c.tv t).o) (z3o m.lt 2 (by decide) rfl);rw [← Nat.add_assoc] at this;exact this))
instance (priority:=1300) (n:Nat) [l:Lt t c.ls.length] [m:Lt n (lcg c t).code.length]:zC (knP b x c K) (x.c.lv t).b ((x.c.lv t).o+n*6+2) (.int .i64 (zM (lcg c t).code n).b):=let ⟨R,h⟩:=zay (b:=b) (x:=x) (K:=K) l.lt;z1d h (za rfl (by have:=zg (b:=(x.c.lv t).b) (o:=(x.c.lv t).o) (z3o m.lt 2 (by decide) rfl);rw [← Nat.add_assoc] at this;exact this))
instance (priority:=1300) (n:Nat) [l:Lt t c.ts.length] [m:Lt n (tcg c t).code.length]:zC (knP b x c K) (x.c.tv t).b ((x.c.tv t).o+n*6+3) (.int .i64 (zM (tcg c t).code n).c):=let ⟨R,h⟩:=z68 (b:=b) (x:=x) (K:=K) l.lt;z1d h (za rfl (by have:=zg (b:=(x.c.tv t).b) (o:=(x.c.tv t).o) (z3o m.lt 3 (by decide) rfl);rw [← Nat.add_assoc] at this;exact this))
instance (priority:=1300) (n:Nat) [l:Lt t c.ls.length] [m:Lt n (lcg c t).code.length]:zC (knP b x c K) (x.c.lv t).b ((x.c.lv t).o+n*6+3) (.int .i64 (zM (lcg c t).code n).c):=let ⟨R,h⟩:=zay (b:=b) (x:=x) (K:=K) l.lt;z1d h (za rfl (by have:=zg (b:=(x.c.lv t).b) (o:=(x.c.lv t).o) (z3o m.lt 3 (by decide) rfl);rw [← Nat.add_assoc] at this;exact this))
instance (priority:=1300) (n:Nat) [l:Lt t c.ts.length] [m:Lt n (tcg c t).code.length]:zC (knP b x c K) (x.c.tv t).b ((x.c.tv t).o+n*6+4) (.int .i64 (zM (tcg c t).code n).d):=let ⟨R,h⟩:=z68 (b:=b) (x:=x) (K:=K) l.lt;z1d h (za rfl (by have:=zg (b:=(x.c.tv t).b) (o:=(x.c.tv t).o) (z3o m.lt 4 (by decide) rfl);rw [← Nat.add_assoc] at this;exact this))
instance (priority:=1300) (n:Nat) [l:Lt t c.ls.length] [m:Lt n (lcg c t).code.length]:zC (knP b x c K) (x.c.lv t).b ((x.c.lv t).o+n*6+4) (.int .i64 (zM (lcg c t).code n).d):=let ⟨R,h⟩:=zay (b:=b) (x:=x) (K:=K) l.lt;z1d h (za rfl (by have:=zg (b:=(x.c.lv t).b) (o:=(x.c.lv t).o) (z3o m.lt 4 (by decide) rfl);rw [← Nat.add_assoc] at this;exact this))
instance (priority:=1300) (n:Nat) [l:Lt t c.ts.length] [m:Lt n (tcg c t).code.length]:zC (knP b x c K) (x.c.tv t).b ((x.c.tv t).o+n*6+5) (.int .u32 (zM (tcg c t).code n).k):=let ⟨R,h⟩:=z68 (b:=b) (x:=x) (K:=K) l.lt;z1d h (za rfl (by have:=zg (b:=(x.c.tv t).b) (o:=(x.c.tv t).o) (z3o m.lt 5 (by decide) rfl);rw [← Nat.add_assoc] at this;exact this))
instance (priority:=1300) (n:Nat) [l:Lt t c.ls.length] [m:Lt n (lcg c t).code.length]:zC (knP b x c K) (x.c.lv t).b ((x.c.lv t).o+n*6+5) (.int .u32 (zM (lcg c t).code n).k):=let ⟨R,h⟩:=zay (b:=b) (x:=x) (K:=K) l.lt;z1d h (za rfl (by have:=zg (b:=(x.c.lv t).b) (o:=(x.c.lv t).o) (z3o m.lt 5 (by decide) rfl);rw [← Nat.add_assoc] at this;exact this))
instance (priority:=1300) (n:Nat) [m:Lt n c.timers.length]:zC (knP b x c K) x.c.cm.b (x.c.cm.o+n) (.int .i64 (lg c.timers n)):=let ⟨R,h⟩:=znn (b:=b) (x:=x) (c:=c) (K:=K);za h (zg (getElem?_map_int .i64 m.lt))
instance (priority:=1300) (n:Nat) [m:Lt n c.sems.length]:zC (knP b x c K) x.sa.b (x.sa.o+n) (.pointer (some ⟨x.sb n,0,none⟩)):=let ⟨R,h⟩:=zjg (b:=b) (x:=x) (K:=K) m.lt;za (z2C b x c K n ▸ h (K.sm n)) (za rfl (zg (j:=0) rfl))
instance (priority:=1300) (n:Nat) [m:Lt n c.queues.length]:zC (knP b x c K) x.qa.b (x.qa.o+n) (.pointer (some ⟨x.qb n,0,none⟩)):=let ⟨R,h⟩:=zfy (b:=b) (x:=x) (K:=K) m.lt;za (z0I b x c K n ▸ h (K.ml n)) (za rfl (zg (j:=0) rfl))
instance (priority:=1300) (n:Nat) [m:Lt n c.ls.length]:zC (knP b x c K) x.mm.b (x.mm.o+n) ((x.mv n).v (z1w c n)):=let ⟨R,h⟩:=zje (b:=b) (x:=x) (K:=K) m.lt;za (zdb b x c K n ▸ h (K.mems n)) (za rfl (zg (j:=0) rfl))
end
end Go.Proofs.YtgiiidminlhbpaaGreatDoor
namespace Go.Proofs.YtgiiidminlhbpaaGreatDoor
open Go.RowKit Go.Sx Go.Rq
theorem z9p {l:Nat} (hl:l<32):(2:Int)^l%4294967296=((2^l:Nat):Int):=by
 have h2:=z30 hl;have h3:((2^l:Nat):Int)=(2:Int)^l:=by rw [Int.natCast_pow];rfl
 have h5:(0:Int)≤2^l:=Int.pow_nonneg (by decide);rw [← h3];exact Int.emod_eq_of_lt (by omega) (by omega)
theorem zlT (n:Int) (h:-128≤n∧n≤127):IntKind.i8.wrap n=n:=by simp [IntKind.wrap,IntKind.signed,IntKind.bits];omega
theorem z9s (b o:Nat) (R:Nat→List Nat) (t l:Nat) (u v:List Nat) (w0 w:World) (F:HP) (hs:Sat w0 w (rdP b o R*F)) (hr:R l=u++t::v) :
  Calls Tryz.prog 148 #[.pointer (some ⟨b,o,none⟩),.int .i64 t] w (zp w0 (.tuple #[]) (rdP b o (up R l (u++v))*F)):=by
 obtain ⟨⟨n,fr,bk,ah,af,lv,cnt⟩,h,hs⟩:=z3S hs;have H:=hid h;have hm:t∈R l:=by rw [hr];simp
 have ht:=h.rng hm;have hl:=h.out hm;have htop:=h.top;have hu:t ∉ u:=by
  have:=h.nd l;rw [hr,List.nodup_append] at this;exact fun e=>this.2.2 t e t (by simp) rfl
 have g1:=h.hlv hm;have g2:=h.hah hm;have g3:=h.haf hm;rw [hr,zkR hu] at g2;rw [hr,zg6 hu] at g3;haveI:Lt l fr.length:=⟨by rw [h.lfr];exact hl⟩;haveI:Lt l bk.length:=⟨by rw [h.lbk];exact hl⟩;haveI:Lt t ah.length:=⟨by rw [h.lah];exact ht⟩;haveI:Lt t af.length:=⟨by rw [h.laf];exact ht⟩;haveI:Lt t lv.length:=⟨by rw [h.llv];exact ht⟩;have hs2:Sat w0 w (pts b o [.int .u32 n]*(pts b (o+1) (fr.map (Value.int .i8))*(pts b (o+33) (bk.map (Value.int .i8))*(pts b (o+65) (ah.map (Value.int .i8))*(pts b (o+129) (af.map (Value.int .i8))*(pts b (o+193) (lv.map (Value.int .i8))*(pts b (o+257) [.int .i64 cnt]*F))))))):=hs.perm (by unfold raP;ac_rfl);have d1:decide (l<32)=true:=decide_eq_true hl;have d2:decide (t<64)=true:=decide_eq_true ht;have i1:(l:Int)<32:=by omega
 have i2:(t:Int)<64:=by omega
 have w1:IntKind.i8.wrap (l:Int)=l:=zlT _ ⟨by omega,by omega⟩;have w2:IntKind.i8.wrap ((l:Int)+1-1)=l:=by rw [zlT _ ⟨by omega,by omega⟩];omega
 have hpw:=hid (z9p hl);have han:=hid (z1c n l htop hl);have hmem:∀ x∈u++v,x<64:=fun x hx=>h.rng (l:=l) (by rw [hr];rcases List.mem_append.1 hx with a | a<;>simp [a]);have haf:=h.laf;have hah:=h.lah;clear h hs hm hu
 rcases z8r (-1) u with ⟨e1,f1⟩ | ⟨m1,k1,f1⟩<;>rcases zj9 v with ⟨e2,f2⟩ | ⟨m2,k2,f2⟩
 ·rw [f1] at g2;rw [f2] at g3;have hf:=hid (H.out.cut hr (fr':=fr.set l (-1)) (af':=af) (bk':=bk.set l (-1)) (ah':=ah) (n':=n &&& (4294967295-2^l)) (fun _=>⟨by rw [f2],rfl⟩) (fun a=>absurd e1 a) (fun _=>⟨by rw [f1],rfl⟩) (fun a=>absurd e2 a) (fun _=>rfl) (fun a=>absurd ⟨e1,e2⟩ a));clear e1 f1 e2 f2 hr hmem
  go_enter Tryz.func148,Tryz.ntmps148
  go_wp2_with fail;go_quiet (fail);go_wp2_with fail;refine z9 (w0:=w0) ?_;intro wx hsx;go_still_tail 9,(by kernel_rfl);change wpList _ _ _ _ _ wx.drew;go_wp2_with fail
  go_end0
  rw [hpw.out,han.out];exact ⟨rfl,z2S (cnt:=wrap64 (cnt-1)) z3 hf.out⟩
 ·have hm2:=hmem m2 (by simp [k2]);have i3:(m2:Int)<64:=by omega
  have d3:decide (m2<64)=true:=decide_eq_true hm2;haveI:Lt m2 ah.length:=⟨by rw [hah];exact hm2⟩;rw [f1] at g2;rw [f2] at g3;have hv:v≠[]:=fun a=>by rw [a] at k2;cases k2
  have hf:=hid (H.out.cut hr (fr':=fr.set l m2) (af':=af) (bk':=bk) (ah':=ah.set m2 (-1)) (n':=n) (fun _=>⟨by rw [f2],rfl⟩) (fun a=>absurd e1 a) (fun a=>absurd a hv) (fun _=>⟨rfl,by rw [f2,f1];rfl⟩) (fun a=>absurd a.2 hv) (fun _=>rfl));clear e1 f1 f2 hr hmem hv k2
  go_enter Tryz.func148,Tryz.ntmps148
  go_wp2_with fail;go_quiet (fail);go_wp2_with fail
  go_end0
  exact ⟨rfl,z2S (cnt:=wrap64 (cnt-1)) z3 hf.out⟩
 ·have hm1:=hmem m1 (by simp [k1]);have i3:(m1:Int)<64:=by omega
  have d3:decide (m1<64)=true:=decide_eq_true hm1;haveI:Lt m1 af.length:=⟨by rw [haf];exact hm1⟩;rw [f1] at g2;rw [f2] at g3;have hv:u≠[]:=fun a=>by rw [a] at k1;cases k1
  have hf:=hid (H.out.cut hr (fr':=fr) (af':=af.set m1 (-1)) (bk':=bk.set l m1) (ah':=ah) (n':=n) (fun a=>absurd a hv) (fun _=>⟨rfl,by rw [f1,f2];rfl⟩) (fun _=>⟨by rw [f1],rfl⟩) (fun a=>absurd e2 a) (fun a=>absurd a.1 hv) (fun _=>rfl));clear e2 f1 f2 hr hmem hv k1
  go_enter Tryz.func148,Tryz.ntmps148
  go_wp2_with fail;go_quiet (fail);go_wp2_with fail
  go_end0
  exact ⟨rfl,z2S (cnt:=wrap64 (cnt-1)) z3 hf.out⟩
 ·have hm1:=hmem m1 (by simp [k1]);have hm2:=hmem m2 (by simp [k2]);have i3:(m1:Int)<64:=by omega
  have d3:decide (m1<64)=true:=decide_eq_true hm1;have i4:(m2:Int)<64:=by omega
  have d4:decide (m2<64)=true:=decide_eq_true hm2;haveI:Lt m1 af.length:=⟨by rw [haf];exact hm1⟩;haveI:Lt m2 ah.length:=⟨by rw [hah];exact hm2⟩;rw [f1] at g2;rw [f2] at g3;have hv:u≠[]:=fun a=>by rw [a] at k1;cases k1
  have hv2:v≠[]:=fun a=>by rw [a] at k2;cases k2
  have hf:=hid (H.out.cut hr (fr':=fr) (af':=af.set m1 m2) (bk':=bk) (ah':=ah.set m2 m1) (n':=n) (fun a=>absurd a hv) (fun _=>⟨rfl,by rw [f1,f2];rfl⟩) (fun a=>absurd a hv2) (fun _=>⟨rfl,by rw [f1,f2];rfl⟩) (fun a=>absurd a.1 hv) (fun _=>rfl));clear f1 f2 hr hmem hv k1 hv2 k2
  go_enter Tryz.func148,Tryz.ntmps148
  go_wp2_with fail;go_quiet (fail);go_wp2_with fail
  go_end0
  exact ⟨rfl,z2S (cnt:=wrap64 (cnt-1)) z3 hf.out⟩
theorem z1J (b o:Nat) (R:Nat→List Nat) (t:Nat) (z:Bool) (hz:(z1H R t).isSome=z) (w0 w:World) (F:HP) (hs:Sat w0 w (rdP b o R*F)) (ht:t<64) :
  Calls Tryz.prog 105 #[.pointer (some ⟨b,o,none⟩),.int .i64 t] w (zp w0 (.bool z) (rdP b o R*F)):=by
 obtain ⟨⟨n,fr,bk,ah,af,lv,cnt⟩,h,hs⟩:=z3S hs;have H:=hid h;haveI:Lt t lv.length:=⟨by rw [h.llv];exact ht⟩;have hs2:Sat w0 w (pts b o [.int .u32 n]*(pts b (o+1) (fr.map (Value.int .i8))*(pts b (o+33) (bk.map (Value.int .i8))*(pts b (o+65) (ah.map (Value.int .i8))*(pts b (o+129) (af.map (Value.int .i8))*(pts b (o+193) (lv.map (Value.int .i8))*(pts b (o+257) [.int .i64 cnt]*F))))))):=hs.perm (by unfold raP;ac_rfl);have d2:decide (t<64)=true:=decide_eq_true ht;have i2:(t:Int)<64:=by omega
 have hl:=zfM h ht;subst hz
 cases e:z1H R t with
 | none =>
  rw [e] at hl;clear h hs e
  go_enter Tryz.func105,Tryz.ntmps105
  go_wp2_with fail;refine (z4s t 0 true (decide_eq_true ⟨by omega,by omega,by omega,by omega⟩) _).mono ?_;rintro en w1 ⟨rfl,rfl⟩;go_wp2_with fail;go_ret;exact ⟨rfl,z2S (cnt:=cnt) z3 H.out⟩
 | some l =>
  rw [e] at hl;have hl:ag lv t=(l:Int)+1:=hl;have i3:decide ((0:Int)<(l:Int)+1)=true:=decide_eq_true (by omega);clear h hs e
  go_enter Tryz.func105,Tryz.ntmps105
  go_wp2_with fail;refine (z4s t 0 true (decide_eq_true ⟨by omega,by omega,by omega,by omega⟩) _).mono ?_;rintro en w1 ⟨rfl,rfl⟩;go_wp2_with fail;go_ret;exact ⟨rfl,z2S (cnt:=cnt) z3 H.out⟩
theorem zdi {w0 w:World} {F:HP} {b o:Nat} {R:Nat→List Nat} (hs:Sat w0 w (rdP b o R*F)):z4x R:=let ⟨a,h,_⟩:=z3S hs;h.ok
theorem zig (b o:Nat) (R:Nat→List Nat) (t l:Nat) (w0 w:World) (F:HP) (hs:Sat w0 w (rdP b o R*F)) (ht:t<64) (hl:l<32) :
  Calls Tryz.prog 87 #[.pointer (some ⟨b,o,none⟩),.int .i64 t,.int .i64 l] w (zp w0 (.int .i64 (if z1H R t=none then 0 else 1)) (rdP b o (z9N R t l)*F)):=by
 have hok:=zdi hs
 cases e:z1H R t with
 | none =>
  have e2:z9N R t l=up R l (R l++[t]):=by unfold z9N;rw [if_pos ⟨e,ht,hl⟩]
  rw [e2];have hno:=z9k hok e;have hz:(z1H R t).isSome=false:=by rw [e];rfl
  clear e e2 hok
  go_enter Tryz.func87,Tryz.ntmps87
  go_wp2_with fail;refine (z4s t l true (decide_eq_true ⟨by omega,by omega,by omega,by omega⟩) _).mono ?_;rintro en w1 ⟨rfl,rfl⟩;go_wp2_with fail;refine (z1J b o R t false hz w0 _ _ own ht).mono ?_;rintro en w1 ⟨rfl,hs1⟩;clear hs;go_wp2_with fail;refine (z7w b o R t l w0 _ _ own ht hl hno).mono ?_;rintro en w2 ⟨rfl,hs2⟩;go_wp2_with fail;go_ret;exact ⟨rfl,hs2⟩
 | some k =>
  have e2:z9N R t l=R:=by unfold z9N;rw [if_neg];rw [e];simp
  rw [e2];have hz:(z1H R t).isSome=true:=by rw [e];rfl
  clear e e2 hok
  go_enter Tryz.func87,Tryz.ntmps87
  go_wp2_with fail;refine (z4s t l true (decide_eq_true ⟨by omega,by omega,by omega,by omega⟩) _).mono ?_;rintro en w1 ⟨rfl,rfl⟩;go_wp2_with fail;refine (z1J b o R t true hz w0 _ _ own ht).mono ?_;rintro en w1 ⟨rfl,hs1⟩;clear hs;go_wp2_with fail;go_ret;exact ⟨rfl,hs1⟩
theorem z9r {R:Nat→List Nat} (h:z4x R) {t l:Nat} (e:z1H R t=some l):∃ u v,R l=u++t::v∧(R l).erase t=u++v:=by
 have ht:=(z1a e).1;obtain ⟨u,v,e⟩:=List.append_of_mem ht;refine ⟨u,v,e,?_⟩;have hnd:=h.nd l;rw [e] at hnd ⊢;refine za4 fun hu=>?_;rw [List.nodup_append] at hnd;exact hnd.2.2 t hu t (by simp) rfl
theorem zcd (b o:Nat) (R:Nat→List Nat) (t:Nat) (w0 w:World) (F:HP) (hs:Sat w0 w (rdP b o R*F)) (ht:t<64) :
  Calls Tryz.prog 119 #[.pointer (some ⟨b,o,none⟩),.int .i64 t] w (zp w0 (.bool (z1H R t).isSome) (rdP b o (z5F R t)*F)):=by
 have hok:=zdi hs
 cases e:z1H R t with
 | none =>
  rw [z7D e];have hz:(z1H R t).isSome=false:=by rw [e];rfl
  clear e hok
  go_enter Tryz.func119,Tryz.ntmps119
  go_wp2_with fail;refine (z1J b o R t false hz w0 _ _ own ht).mono ?_;rintro en w1 ⟨rfl,hs1⟩;go_wp2_with fail;go_ret;exact ⟨rfl,hs1⟩
 | some l =>
  obtain ⟨u,v,e1,e2⟩:=z9r hok e;rw [z7E e,e2];have hz:(z1H R t).isSome=true:=by rw [e];rfl
  clear e e2 hok
  go_enter Tryz.func119,Tryz.ntmps119
  go_wp2_with fail;refine (z1J b o R t true hz w0 _ _ own ht).mono ?_;rintro en w1 ⟨rfl,hs1⟩;clear hs;go_wp2_with fail;refine (z9s b o R t l u v w0 _ _ own e1).mono ?_;rintro en w2 ⟨rfl,hs2⟩;go_wp2_with fail;go_ret;exact ⟨rfl,hs2⟩
theorem z5E (b o:Nat) (R:Nat→List Nat) (t l:Nat) (e:z1H R t=some l) (w0 w:World) (F:HP) (hs:Sat w0 w (rdP b o R*F)) (ht:t<64) :
  Calls Tryz.prog 155 #[.pointer (some ⟨b,o,none⟩),.int .i64 t] w (zp w0 (.int .i64 l) (rdP b o R*F)):=by
 have hz:(z1H R t).isSome=true:=by rw [e];rfl
 go_enter Tryz.func155,Tryz.ntmps155
 go_wp2_with fail;refine (z1J b o R t true hz w0 _ _ own ht).mono ?_;rintro en w1 ⟨rfl,hs1⟩;obtain ⟨⟨n,fr,bk,ah,af,lv,cnt⟩,h,hs⟩:=z3S hs1;have H:=hid h;haveI:Lt t lv.length:=⟨by rw [h.llv];exact ht⟩;have hs2:Sat w0 w1 (pts b o [.int .u32 n]*(pts b (o+1) (fr.map (Value.int .i8))*(pts b (o+33) (bk.map (Value.int .i8))*(pts b (o+65) (ah.map (Value.int .i8))*(pts b (o+129) (af.map (Value.int .i8))*(pts b (o+193) (lv.map (Value.int .i8))*(pts b (o+257) [.int .i64 cnt]*F))))))):=hs.perm (by unfold raP;ac_rfl);have d2:decide (t<64)=true:=decide_eq_true ht;have i2:(t:Int)<64:=by omega
 have hl:=zfM h ht;rw [e] at hl;have hl:ag lv t=(l:Int)+1:=hl;have hl32:=(z1a e).2;have w3:(l:Int)+1-1=l:=by omega
 clear h hs hs1 e hz;go_wp2_with fail;go_ret;exact ⟨rfl,z2S (cnt:=cnt) z3 H.out⟩
theorem znN (R:Nat→List Nat) (l:Nat) (p q:List Nat):up (up R l p) l q=up R l q:=by
 funext k;unfold up;split<;>rfl
theorem zge (b o:Nat) (R:Nat→List Nat) (t:Nat) (w0 w:World) (F:HP) (hs:Sat w0 w (rdP b o R*F)) (ht:t<64) :
  Calls Tryz.prog 128 #[.pointer (some ⟨b,o,none⟩),.int .i64 t] w (zp w0 (.bool (z1H R t).isSome) (rdP b o (z6e R t)*F)):=by
 have hok:=zdi hs
 cases e:z1H R t with
 | none =>
  rw [z5O e];have hz:(z1H R t).isSome=false:=by rw [e];rfl
  clear e hok
  go_enter Tryz.func128,Tryz.ntmps128
  go_wp2_with fail;refine (z1J b o R t false hz w0 _ _ own ht).mono ?_;rintro en w1 ⟨rfl,hs1⟩;go_wp2_with fail;go_ret;exact ⟨rfl,hs1⟩
 | some l =>
  obtain ⟨u,v,e1,e2⟩:=z9r hok e;have hl:=(z1a e).2;have hno:∀ k,t ∉ up R l (u++v) k:=fun k=>by rw [← e2];exact z31 hok (z1a e).1 k
  have e3:z6e R t=up (up R l (u++v)) l (up R l (u++v) l++[t]):=by rw [z5P e,znN,z0n,e2]
  rw [e3];have E:=hid e;have hz:(z1H R t).isSome=true:=by rw [e];rfl
  clear e e2 hok e3
  go_enter Tryz.func128,Tryz.ntmps128
  go_wp2_with fail;refine (z1J b o R t true hz w0 _ _ own ht).mono ?_;rintro en w1 ⟨rfl,hs1⟩;clear hs;go_wp2_with fail;refine (z5E b o R t l E.out w0 _ _ own ht).mono ?_;rintro en w2 ⟨rfl,hs2⟩;clear hs1;go_wp2_with fail;refine (z9s b o R t l u v w0 _ _ own e1).mono ?_;rintro en w3 ⟨rfl,hs3⟩;clear hs2;go_wp2_with fail;refine (z7w b o _ t l w0 _ _ own ht hl hno).mono ?_;rintro en w4 ⟨rfl,hs4⟩;go_wp2_with fail;go_ret;exact ⟨rfl,hs4⟩
theorem zgd (b o:Nat) (R:Nat→List Nat) (t k:Nat) (w0 w:World) (F:HP) (hs:Sat w0 w (rdP b o R*F)) (ht:t<64) (hk:k<32) :
  Calls Tryz.prog 151 #[.pointer (some ⟨b,o,none⟩),.int .i64 t,.int .i64 k] w (zp w0 (.bool (decide (z1H R t≠none∧z1H R t≠some k))) (rdP b o (z6b R t k)*F)):=by
 have hok:=zdi hs
 cases e:z1H R t with
 | none =>
  rw [z5w e];have hz:(z1H R t).isSome=false:=by rw [e];rfl
  clear e hok
  go_enter Tryz.func151,Tryz.ntmps151
  go_wp2_with fail;refine (z1J b o R t false hz w0 _ _ own ht).mono ?_;rintro en w1 ⟨rfl,hs1⟩;go_wp2_with fail;go_ret;exact ⟨by simp,hs1⟩
 | some l =>
  obtain ⟨u,v,e1,e2⟩:=z9r hok e;have hl:=(z1a e).2;have hno:∀ k,t ∉ up R l (u++v) k:=fun k=>by rw [← e2];exact z31 hok (z1a e).1 k
  have hz:(z1H R t).isSome=true:=by rw [e];rfl
  by_cases hlk:l=k
  ·subst hlk;rw [z45 e,if_pos (.inl rfl)];have E:=hid e;clear e e2 hok
   go_enter Tryz.func151,Tryz.ntmps151
   go_wp2_with fail;refine (z1J b o R t true hz w0 _ _ own ht).mono ?_;rintro en w1 ⟨rfl,hs1⟩;clear hs;go_wp2_with fail;refine (z4s t l true (decide_eq_true ⟨by omega,by omega,by omega,by omega⟩) _).mono ?_;rintro en w2 ⟨rfl,rfl⟩;go_wp2_with fail;refine (z5E b o R t l E.out w0 _ _ own ht).mono ?_;rintro en w2 ⟨rfl,hs2⟩;clear hs1;go_wp2_with fail;go_ret;exact ⟨by simp,hs2⟩
  ·have e3:z6b R t k=up (up R l (u++v)) k (up R l (u++v) k++[t]):=by rw [z45 e,if_neg (by omega),e2,z02 _ _ (Ne.symm hlk)]
   rw [e3];have E:=hid e;have hne:((l:Int)==(k:Int))=false:=by simp;omega
   clear e e2 hok e3
   go_enter Tryz.func151,Tryz.ntmps151
   go_wp2_with fail;refine (z1J b o R t true hz w0 _ _ own ht).mono ?_;rintro en w1 ⟨rfl,hs1⟩;clear hs;go_wp2_with fail;refine (z4s t k true (decide_eq_true ⟨by omega,by omega,by omega,by omega⟩) _).mono ?_;rintro en w2 ⟨rfl,rfl⟩;go_wp2_with fail;refine (z5E b o R t l E.out w0 _ _ own ht).mono ?_;rintro en w2 ⟨rfl,hs2⟩;clear hs1;go_wp2_with fail;refine (z9s b o R t l u v w0 _ _ own e1).mono ?_;rintro en w3 ⟨rfl,hs3⟩;clear hs2;go_wp2_with fail;refine (z7w b o _ t k w0 _ _ own ht hk hno).mono ?_;rintro en w4 ⟨rfl,hs4⟩;go_wp2_with fail;go_ret;exact ⟨by simp [hlk],hs4⟩
end Go.Proofs.YtgiiidminlhbpaaGreatDoor
namespace Go.Proofs.YtgiiidminlhbpaaGreatDoor
open Go.RowKit Go.Sx Go.Dl Go.Lk Go.Rq Go.Au
section
variable {c:Cf} {K:Kn}
theorem zhk (h:Inv c K) {S:List Ck} (hS:SOk S) (hc:∀ id,has S id→zeH c K.T id):Inv c { K with S:=S }:={ h with S:=hS,clk:=hc }
theorem z5n (h:Inv c K) (id:Int):Inv c { K with S:=z33 id K.S }:=zhk h (zcm h.S id) fun x hx=>h.clk x (z8T.1 hx).2
theorem zc8 {S:List Ck} {id t x:Int} (hx:has (z5B S id t) x):x=id∨has S x:=by
 unfold z5B at hx;split at hx
 ·exact zbz.1 hx
 ·exact .inr hx
theorem z4p (h:Inv c K) {id t:Int} (hc:zeH c K.T id):Inv c { K with S:=z5B K.S id t } :=
 zhk h (z9G h.S id t) fun x hx=>by
  rcases zc8 hx with rfl | hx
  ·exact hc
  ·exact h.clk x hx
theorem zhj (h:Inv c K) {R:Nat→List Nat} (hR:z4x R) (hr:∀ l t,t∈R l→t<c.ts.length∧(K.T t).st=1):Inv c { K with R:=R }:={ h with R:=hR,rdy:=hr }
theorem zcY (h:Inv c K) {t:Nat} (ht:t<c.ts.length) (hs:(K.T t).st=1) (l:Nat):Inv c { K with R:=z9N K.R t l } :=
 zhj h (h.R.put t l) fun k x hx=>by
  rcases zie hx with rfl | hx
  ·exact ⟨ht,hs⟩
  ·exact h.rdy k x hx
theorem zhp (h:Inv c K) (t:Nat):Inv c { K with R:=z5F K.R t }:=zhj h (h.R.rem t) fun k x hx=>h.rdy k x (zdm h.R hx).2
theorem zfd (h:Inv c K) (t:Nat):Inv c { K with R:=z6e K.R t }:=zhj h (h.R.turn t) fun k x hx=>by
 obtain ⟨k,hx⟩:=zgL hx;exact h.rdy k x hx
theorem zf9 (h:Inv c K) (t l:Nat):Inv c { K with R:=z6b K.R t l }:=zhj h (h.R.move t l) fun k x hx=>by
 obtain ⟨k,hx⟩:=zfT hx;exact h.rdy k x hx
theorem zcZ (h:Inv c K) {s:Nat} {u:Int} {l:List Int} (hs:s<c.sems.length) (hok:z1L u l) (hl:∀ t∈l,t<c.ts.length∧(K.T t.toNat).st=4∧(K.T t.toNat).on=64+s):Inv c { K with sm:=upd K.sm s (u,l) }:=by
 refine { h with sm:=?_,smr:=?_ }
 ·intro r hr;show z1L (upd K.sm s (u,l) r).1 (upd K.sm s (u,l) r).2;unfold upd;split
  ·exact hok
  ·exact h.sm r hr
 ·intro r hr t ht;replace ht:t∈(upd K.sm s (u,l) r).2:=ht;unfold upd at ht;split at ht
  ·rename_i e;subst e;exact hl t ht
  ·exact h.smr r hr t ht
theorem z5R (h:Inv c K) {q:Nat} {Q:Mq} (hs:q<c.queues.length) (hok:z3Z Q) (hw:MqW Q) (h1:∀ t∈Q.S,t<c.ts.length∧(K.T t.toNat).st=5∧(K.T t.toNat).on=96+q) (h2:∀ t∈Q.R,t<c.ts.length∧(K.T t.toNat).st=6∧(K.T t.toNat).on=128+q):Inv c { K with ml:=upd K.ml q Q }:=by
 refine { h with ml:=?_,mls:=?_,mlr:=?_ }
 ·intro r hr;show z3Z (upd K.ml q Q r)∧MqW (upd K.ml q Q r);unfold upd;split
  ·exact ⟨hok,hw⟩
  ·exact h.ml r hr
 ·intro r hr t ht;replace ht:t∈(upd K.ml q Q r).S:=ht;unfold upd at ht;split at ht
  ·rename_i e;subst e;exact h1 t ht
  ·exact h.mls r hr t ht
 ·intro r hr t ht;replace ht:t∈(upd K.ml q Q r).R:=ht;unfold upd at ht;split at ht
  ·rename_i e;subst e;exact h2 t ht
  ·exact h.mlr r hr t ht
theorem zah (h:Inv c K) {L:Lk} (hg:Good L) (h1:L.own.length=K.L.own.length) (h2:L.ow.length=K.L.ow.length) (hw:∀ t,t<c.ts.length→0≤z0N L t→(K.T t).st=3):Inv c { K with L:=L } :=
 { h with L:=hg,Ln:=h1.trans h.Ln,Lm:=by show (L.ow.length:Int)=_;rw [h2];exact h.Lm,Lw:=hw }
theorem z3b (h:Inv c K):Inv c K.take:=z6Z h (by constructor<;>rfl) h.cyc
theorem z6H (h:Inv c K) {t:Nat} (ht:t<c.ts.length) (h1:1≤(K.T t).at_) (h2:(K.T t).at_≤(tcg c t).code.length):zI (K.call c t):=by
 have:=h.cf.tc t ht _ (z3C (l:=(tcg c t).code) (n:=(K.T t).at_-1) (by omega) (by omega));exact z4o this.1 this.2
structure Off (c:Cf) (K:Kn) (t:Nat):Prop where
 lt:t<c.ts.length
 st:2≤(K.T t).st∧(K.T t).st≤6
 sm:∀ s,s<c.sems.length→(t:Int) ∉ (K.sm s).2
 mls:∀ q,q<c.queues.length→(t:Int) ∉ (K.ml q).S
 mlr:∀ q,q<c.queues.length→(t:Int) ∉ (K.ml q).R
 lk:¬ 0≤z0N K.L t
theorem zmR (t:Nat) (why a:Int):(K.wake c t why a).T=upd K.T t { K.T t with rg:=(K.T t).rg.set (K.call c t).a.toNat a,st:=1,on:=0 }:=by
 unfold Kn.wake;simp [Kn.setT]
theorem zmQ (t:Nat) (why a:Int):(K.wake c t why a).L=K.L:=by unfold Kn.wake;simp [Kn.setT]
theorem zo3 (t:Nat) (why a:Int):(K.wake c t why a).S=z33 (64+t) K.S:=by unfold Kn.wake;simp [Kn.setT]
theorem znQ (t:Nat) (why a:Int):(K.wake c t why a).ln=K.ln:=by unfold Kn.wake;simp [Kn.setT]
theorem z2z (h:Inv c K) {t:Nat} (o:Off c K t) (why:Int) {a:Int} (ha:zG a):Inv c (K.wake c t why a):=by
 have hT:=h.T t o.lt;have hb:=hT.blk o.st.1 o.st.2;have hi:=z6H h o.lt hb.1 hb.2;have h1:=z5n h (64+t);have h2:Inv c ({ K with S:=z33 (64+t) K.S }.setT t { K.T t with rg:=(K.T t).rg.set (K.call c t).a.toNat a,st:=1,on:=0 }):=by
  refine z6p h1 o.lt ?_ (fun e=>absurd rfl (z8T.1 e).1) (fun _ _=>rfl) (fun e=>absurd e o.lk) (fun s hs e=>absurd e (o.sm s hs)) (fun s hs e=>absurd e (o.mls s hs)) (fun s hs e=>absurd e (o.mlr s hs));exact ⟨hT.lev,hT.late,hT.job,R8.set_rng hT.rg ha _,hT.at_,by simp,fun _=>hb.2,by simp,by simp,by simp,by simp,by simp⟩
 have h3:=zl h2 10 t why 0;have h4:=zcY h3 o.lt (by simp [z2U]) (K.T t).lev.toNat;exact h4
theorem z5U (h:Inv c K) {t:Nat} (ht:t<c.ts.length) (hs:2≤(K.T t).st∧(K.T t).st≤6)
  (h4:(K.T t).st=4→∀ s:Nat,(K.T t).on=64+s→(t:Int) ∉ (K.sm s).2)
  (h5:(K.T t).st=5→∀ s:Nat,(K.T t).on=96+s→(t:Int) ∉ (K.ml s).S)
  (h6:(K.T t).st=6→∀ s:Nat,(K.T t).on=128+s→(t:Int) ∉ (K.ml s).R)
  (h3:(K.T t).st=3→¬ 0≤z0N K.L t):Off c K t:=by
 refine ⟨ht,hs,fun s hs e=>?_,fun s hs e=>?_,fun s hs e=>?_,fun e=>?_⟩
 ·have:=(h.smr s hs _ e).2;exact h4 (by simpa using this.1) s (by simpa using this.2) e
 ·have:=(h.mls s hs _ e).2;exact h5 (by simpa using this.1) s (by simpa using this.2) e
 ·have:=(h.mlr s hs _ e).2;exact h6 (by simpa using this.1) s (by simpa using this.2) e
 ·exact h3 (h.Lw t ht e) e
theorem z2R {l:List Int} (h:z2F l) (t:Int):t ∉ l.erase t:=List.Nodup.not_mem_erase h.1
theorem z8X (h:Inv c K) (who:Int) {s:Nat} (hs:s<c.sems.length):Inv c (K.post c who s):=by
 have ho:=h.sm s hs;unfold Kn.post;dsimp only
 split
 ·exact h
 ·have hok:=z5G ho K.L.now;have hsub:∀ t∈z2I K.L.now (K.sm s).2,t∈(K.sm s).2:=by
   intro t ht;unfold z2I at ht;split at ht
   ·exact List.mem_of_mem_erase ht
   ·exact ht
  have h1:=zcZ h hs hok fun t ht=>h.smr s hs t (hsub t ht);have h2:=zl h1 14 who s (z1Z (K.sm s).1 (K.sm s).2)
  split
  ·rename_i hne
   have hm:=z1n K.L.now _ hne;obtain ⟨g1,g2,g3⟩:=h.smr s hs _ hm;have g0:=(ho.row.2 _ hm).1;have e0:(((zD K.L.now (K.sm s).2).toNat:Nat):Int)=zD K.L.now (K.sm s).2:=by omega
   refine z2z h2 (z5U h2 (by omega) ?_ ?_ ?_ ?_ ?_) 1 ⟨by simp,by simp⟩
   ·simp;omega
   ·intro _ r hr;simp only [z01,z5M] at hr ⊢;rw [g3] at hr;have:r=s:=by omega
    subst this;rw [zK,e0];unfold z2I;rw [if_pos hne];exact z2R ho.row _
   ·simp;omega
   ·simp;omega
   ·simp;omega
  ·exact h2
theorem zbB (h:Inv c K) {t:Nat} (ht:t<c.ts.length) (hs:(K.T t).st=1∨z4Z (K.T t)):Inv c (K.timeout c t):=by
 have hT:=h.T t ht;unfold z4Z at hs;have hb:(K.T t).st≠1→2≤(K.T t).st∧(K.T t).st≤6:=by omega
 unfold Kn.timeout;dsimp only
 split
 ·exact h
 rename_i n1
 split
 ·rename_i e;exact z2z h (z5U h ht (by omega) (by omega) (by omega) (by omega) (by omega)) 0 ⟨by simp,by simp⟩
 rename_i n2
 split
 ·rename_i e
  have ho:=hT.on4 e;have hn:((((K.T t).on-64).toNat:Nat):Int)=(K.T t).on-64:=by omega
  have hlt:((K.T t).on-64).toNat<c.sems.length:=by omega
  have h1:=zcZ h (s:=((K.T t).on-64).toNat) hlt (zb3 (h.sm _ hlt) t) fun x hx=>h.smr _ hlt x (List.mem_of_mem_erase hx);refine z2z h1 (z5U h1 ht (hb n1) (fun _ r hr=>?_) (by show (K.T t).st=5→_;omega) (by show (K.T t).st=6→_;omega) (by show (K.T t).st=3→_;omega)) 0 ⟨by simp,by simp⟩;have hr:(K.T t).on=64+r:=hr;have:r=((K.T t).on-64).toNat:=by omega
  subst this;show _ ∉ (upd K.sm _ _ _).2;rw [zK];exact z2R (h.sm _ hlt).row _
 rename_i n4
 have cS:∀ (Q:Mq) x,x∈(Q.cancel t).S→x∈Q.S:=by
  intro Q x hx;unfold Mq.cancel at hx;split at hx
  ·exact List.mem_of_mem_erase hx
  ·exact hx
 have cR:∀ (Q:Mq) x,x∈(Q.cancel t).R→x∈Q.R:=by
  intro Q x hx;unfold Mq.cancel at hx;split at hx
  ·exact hx
  ·exact List.mem_of_mem_erase hx
 have cW:∀ (Q:Mq),MqW Q→MqW (Q.cancel t):=by
  intro Q hQ;unfold Mq.cancel;split<;>exact ⟨hQ.c,hQ.h⟩
 split
 ·rename_i e
  have ho:=hT.on5 e;have hlt:((K.T t).on-96).toNat<c.queues.length:=by omega
  have hq:=h.ml _ hlt;have h1:=z5R h (q:=((K.T t).on-96).toNat) hlt (z7l hq.1 t) (cW _ hq.2) (fun x hx=>h.mls _ hlt x (cS _ _ hx)) (fun x hx=>h.mlr _ hlt x (cR _ _ hx));refine z2z h1 (z5U h1 ht (hb n1) (by show (K.T t).st=4→_;omega) (fun _ r hr=>?_) (by show (K.T t).st=6→_;omega) (by show (K.T t).st=3→_;omega)) 0 ⟨by simp,by simp⟩;have hr:(K.T t).on=96+r:=hr;have:r=((K.T t).on-96).toNat:=by omega
  subst this;show _ ∉ (upd K.ml _ _ _).S;rw [zK];unfold Mq.cancel;split
  ·exact z2R hq.1.s _
  ·rename_i hx;exact hx
 rename_i n5
 split
 ·rename_i e
  have ho:=hT.on6 e;have hlt:((K.T t).on-128).toNat<c.queues.length:=by omega
  have hq:=h.ml _ hlt;have h1:=z5R h (q:=((K.T t).on-128).toNat) hlt (z7l hq.1 t) (cW _ hq.2) (fun x hx=>h.mls _ hlt x (cS _ _ hx)) (fun x hx=>h.mlr _ hlt x (cR _ _ hx));refine z2z h1 (z5U h1 ht (hb n1) (by show (K.T t).st=4→_;omega) (by show (K.T t).st=5→_;omega) (fun _ r hr=>?_) (by show (K.T t).st=3→_;omega)) 0 ⟨by simp,by simp⟩;have hr:(K.T t).on=128+r:=hr;have:r=((K.T t).on-128).toNat:=by omega
  subst this;show _ ∉ (upd K.ml _ _ _).R;rw [zK];unfold Mq.cancel;split
  ·rename_i hx
   intro hy;have a:=(h.mls _ hlt _ hx).2.1;have b:=(h.mlr _ hlt _ hy).2.1;omega
  ·exact z2R hq.1.r _
 ·omega
theorem zbA (h:Inv c K) {t:Nat} (ht:t<c.ts.length):Inv c (K.release c t):=by
 have hT:=h.T t ht;have hc:=h.cf.t t ht;have clk:∀ T,zeH c T t:=fun T=>⟨by omega,fun _=>by omega,fun a=>by have:=h.cf.nt;omega,fun a=>by have:=h.cf.nt;omega⟩;unfold Kn.release;dsimp only;have key:Inv c (if (K.T t).st=0 then
   { (K.setT t { K.T t with job:=((K.T t).job+1)%4294967296,st:=1 }).tell c 6 t 0 (((K.T t).job+1)%4294967296) with R:=z9N ((K.setT t { K.T t with job:=((K.T t).job+1)%4294967296,st:=1 }).tell c 6 t 0 (((K.T t).job+1)%4294967296)).R t (K.T t).lev.toNat }
  else (K.setT t { K.T t with late:=min ((K.T t).late+1) 255 }).tell c 7 t 0 (min ((K.T t).late+1) 255)):=by
  split
  ·rename_i e
   have h1:Inv c (K.setT t { K.T t with job:=((K.T t).job+1)%4294967296,st:=1 }):=by
    refine z6p h ht ⟨hT.lev,hT.late,⟨Int.emod_nonneg _ (by decide),Int.emod_lt_of_pos _ (by decide)⟩,hT.rg,hT.at_,by simp,fun _=>hT.run (.inl e),by simp,by simp,by simp,by simp,hT.on⟩ (fun a=>?_) (fun _ _=>rfl) (fun a=>?_) (fun s hs a=>?_) (fun s hs a=>?_) (fun s hs a=>?_)
    ·have:=((h.clk _ a).2.2.1 (by omega) (by have:=h.cf.nt;omega)).2;unfold z4Z at this;rw [show ((64:Int)+t-64).toNat=t by omega] at this;omega
    ·have:=h.Lw t ht a;omega
    ·have:=(h.smr s hs _ a).2.1;simp at this;omega
    ·have:=(h.mls s hs _ a).2.1;simp at this;omega
    ·have:=(h.mlr s hs _ a).2.1;simp at this;omega
   exact zcY (zl h1 6 t 0 _) ht (by simp [z2U]) _
  ·have hx:z8a c t { K.T t with late:=min ((K.T t).late+1) 255 }:=⟨hT.lev,by have:=hT.late;show 0≤min _ _∧min _ _≤_;omega,hT.job,hT.rg,hT.at_,hT.st,hT.run,hT.blk,hT.on4,hT.on5,hT.on6,hT.on⟩;exact zl (z0t h ht hx rfl rfl) _ _ _ _
 split
 ·exact z4p key (clk _)
 ·exact key
def z3P (c:Cf) (K:Kn) (id:Int):Prop :=
 0≤id∧(id<64→id<c.ts.length)∧(64≤id→id<128→id-64<c.ts.length∧((K.T (id-64).toNat).st=1∨z4Z (K.T (id-64).toNat)))∧(128≤id→id-128<c.timers.length)
def z6f (K K':Kn):Prop:=∀ u,(K'.T u).st=(K.T u).st∨(K'.T u).st=1
theorem z6f.refl (K:Kn):z6f K K:=fun _=>.inl rfl
theorem z6f.trans {A B C:Kn} (h:z6f A B) (k:z6f B C):z6f A C:=fun u=>by
 rcases k u with e | e
 ·rcases h u with f | f
  ·exact .inl (e.trans f)
  ·exact .inr (e.trans f)
 ·exact .inr e
theorem z7r {K':Kn} (m:z6f K K') {id:Int} (h:z3P c K id):z3P c K' id:=by
 obtain ⟨a,b,d,e⟩:=h;refine ⟨a,b,fun p q=>⟨(d p q).1,?_⟩,e⟩;have:=(d p q).2;unfold z4Z at this ⊢
 rcases m (id-64).toNat with f | f
 ·rw [f];exact this
 ·exact .inl f
theorem z5v {K':Kn} (h:K'.T=K.T):z6f K K':=fun u=>.inl (by rw [h])
theorem z2P (t:Nat) (why a:Int):z6f K (K.wake c t why a):=fun u=>by
 rw [zmR];unfold upd;split
 ·exact .inr rfl
 ·exact .inl rfl
theorem zaE (who:Int) (s:Nat):z6f K (K.post c who s):=by
 unfold Kn.post;dsimp only;split
 ·exact .refl K
 ·split
  ·exact z6f.trans (z5v (by simp)) (z2P _ _ _)
  ·exact z5v (by simp)
theorem zaG (t:Nat):z6f K (K.timeout c t):=by
 unfold Kn.timeout;dsimp only
 split
 ·exact .refl K
 split
 ·exact z2P _ _ _
 split
 ·exact z6f.trans (z5v rfl) (z2P _ _ _)
 split
 ·exact z6f.trans (z5v rfl) (z2P _ _ _)
 split
 ·exact z6f.trans (z5v rfl) (z2P _ _ _)
 ·exact z2P _ _ _
theorem zaF (t:Nat):z6f K (K.release c t):=by
 intro u;unfold Kn.release;dsimp only
 by_cases h1:(K.T t).st=0<;>by_cases h2:0<(tcg c t).per<;>simp only [h1,h2,if_true,if_false,z01,z2U]
 all_goals
  by_cases e:u=t
  ·simp [e,h1]
  ·simp [e]
theorem z7k (kd:Nat) (a b v:Int):z6f K (K.tell c kd a b v):=z5v (by simp)
theorem zcX (h:Inv c K) {id:Int} (hp:z3P c K id):Inv c (K.over c id):=by
 obtain ⟨a,b,d,e⟩:=hp;unfold Kn.over
 split
 ·rename_i l;exact zbA h (by have:=b l;omega)
 ·split
  ·rename_i l m;exact zbB h (by have:=d (by omega) m;omega) (d (by omega) m).2
  ·rename_i l m
   have ht:=h.cf.timers (lg c.timers (id-128).toNat) (by
    have:(id-128).toNat<c.timers.length:=by have:=e (by omega);omega
    unfold lg;simp [List.getD,this])
   have hs:(lg c.timers (id-128).toNat).toNat<c.sems.length:=by omega
   have h1:=zl h 18 (id-128) 0 0;dsimp only
   split
   ·exact zl (z8X h1 80 hs) _ _ _ _
   ·exact z8X h1 80 hs
theorem z7j (id:Int):z6f K (K.over c id):=by
 unfold Kn.over;split
 ·exact zaF _
 ·split
  ·exact zaG _
  ·dsimp only;split
   ·exact z6f.trans (z6f.trans (z7k _ _ _ _) (zaE _ _)) (z7k _ _ _ _)
   ·exact z6f.trans (z7k _ _ _ _) (zaE _ _)
theorem z70:∀ (l:List Int) (K:Kn) (_:Inv c K) (_:∀ id∈l,z3P c K id),Inv c (l.foldl (fun K id=>K.over c id) K)
 | [],_,h,_=>h
 | id::l,K,h,hp=>z70 l _ (zcX h (hp id (by simp))) fun x hx=>z7r (z7j id) (hp x (by simp [hx]))
theorem ziK {S:List Ck} {id:Int} (h:has (z2X S) id):has S id:=by
 unfold has z2X at *;rw [List.mem_map] at h ⊢;obtain ⟨x,hx,e⟩:=h;rw [List.mem_map] at hx;obtain ⟨y,hy,rfl⟩:=hx;exact ⟨y,(List.mem_filter.1 hy).1,e⟩
theorem zi8 {S:List Ck} {id:Int} (h:id∈z2H S):has S id:=by
 unfold has z2H at *;rw [List.mem_map] at h ⊢;obtain ⟨x,hx,e⟩:=h;exact ⟨x,(List.mem_filter.1 hx).1,e⟩
theorem zhs (h:Inv c K) (b:Bool):Inv c { K with stopped:=b }:=z6Z h (by constructor<;>rfl) h.cyc
theorem z2Y (hf:K.full∨K.stopped=true):K.tick c={ K with stopped:=true }:=by
 unfold Kn.tick;dsimp only
 by_cases e:K.full
 ·simp [e]
 ·have hs:=hf.resolve_left e;simp [e,hs]
  cases K;simp_all
theorem z9J (hf:¬ K.full) (hs:K.stopped=false):K.tick c=(z2H K.S).foldl (fun K id=>K.over c id) { K with count:=K.count+1,S:=z2X K.S }:=by
 unfold Kn.tick;dsimp only;simp [hf,hs]
theorem z5p (h:Inv c K) (hf:¬ K.full):Inv c { K with count:=K.count+1,S:=z2X K.S }:=by
 have h1:=zhk h (ziD h.S) fun id hid=>h.clk id (ziK hid);have hc:=h.cnt;unfold Kn.full at hf;exact { h1 with cnt:=by show 0≤K.count+1∧K.count+1<_;omega }
theorem z5y (h:Inv c K) {id:Int} (hid:id∈z2H K.S):z3P c { K with count:=K.count+1,S:=z2X K.S } id:=by
 obtain ⟨a,b,d,e⟩:=h.clk id (zi8 hid);exact ⟨a,b,fun p q=>⟨(d p q).1,.inr (d p q).2⟩,e⟩
theorem z8Z (h:Inv c K):Inv c (K.tick c):=by
 by_cases hf:K.full∨K.stopped=true
 ·rw [z2Y hf];exact zhs h true
 ·have h1:¬ K.full:=fun e=>hf (.inl e);rw [z9J h1 (by cases e:K.stopped;rfl;exact absurd (.inr e) hf)];exact z70 _ _ (z5p h h1) fun id hid=>z5y h hid
end
theorem zcR {L:Lk} (hf:Fit L):Good (z8F L (z4U L.own L.ow L.rows)):=by
 have hp:=z28 hf L.own.length;have hl:(z4U L.own L.ow L.rows).length=L.own.length:=hp.len;refine ⟨zcM hf hl fun t ht=>?_,z7z hf⟩;obtain ⟨s,hs,_,e⟩:=hp.att t ht;have e:lg (z4U L.own L.ow L.rows) t=z4c L s:=e;rw [e];exact hf.ownr s hs
theorem z1C (L:Lk) (hg:Good L) (t m:Int) :
  ((z0f L t m).2.2=L∧((z0f L t m).2.1≠0)) ∨
  (0≤t∧t<L.own.length∧0≤m∧m<L.ow.length∧lg L.ow m.toNat=255∧lg L.on t.toNat=-1∧z0f L t m=(true,0,z4d L m.toNat t.toNat)) ∨
  (0≤t∧t<L.own.length∧0≤m∧m<L.ow.length∧lg L.ow m.toNat≠255∧lg L.on t.toNat=-1∧lg L.ow m.toNat≠t∧¬ Go.Lk.Reach L (lg L.ow m.toNat).toNat t.toNat∧z0f L t m=(false,0,z32 L m.toNat t.toNat)):=by
 unfold z0f
 by_cases h1:0≤t∧t<L.own.length
 ·rw [if_neg (Classical.not_not.2 h1)];have hon:lg L.on t.toNat=-1∨0≤lg L.on t.toNat:=by
   rcases hg.fit.onr t.toNat (by omega) with e | e
   ·exact .inl e
   ·exact .inr e.1
  by_cases h2:0≤lg L.on t.toNat
  ·rw [if_pos h2];exact .inl ⟨rfl,by simp⟩
  ·rw [if_neg h2];have h2:=hon.resolve_right h2
   by_cases h3:0≤m∧m<L.ow.length
   ·rw [if_neg (Classical.not_not.2 h3)]
    by_cases h4:lg L.ow m.toNat=t
    ·rw [if_pos h4];exact .inl ⟨rfl,by simp⟩
    ·rw [if_neg h4]
     by_cases h5:lg L.ow m.toNat=255
     ·rw [if_pos h5];exact .inr (.inl ⟨h1.1,h1.2,h3.1,h3.2,h5,h2,rfl⟩)
     ·rw [if_neg h5]
      by_cases h6:Go.Lk.Reach L (lg L.ow m.toNat).toNat t.toNat
      ·rw [if_pos h6];exact .inl ⟨rfl,by simp⟩
      ·rw [if_neg h6];exact .inr (.inr ⟨h1.1,h1.2,h3.1,h3.2,h5,h2,h4,h6,rfl⟩)
   ·rw [if_pos h3];exact .inl ⟨rfl,by simp⟩
 ·rw [if_pos h1];exact .inl ⟨rfl,by simp⟩
theorem zeU {L:Lk} (hg:Good L) (t m:Int):Fit (z0f L t m).2.2:=by
 rcases z1C L hg t m with ⟨e,_⟩ | ⟨a,b,d,e,f,g,h⟩ | ⟨a,b,d,e,f,g,i,j,h⟩
 ·rw [e];exact hg.fit
 ·rw [h];exact z6l hg.fit (by omega) f (by omega)
 ·rw [h];have hw:=hg.fit.owr m.toNat (by omega);have hw:0≤z3O L m.toNat∧z3O L m.toNat<L.own.length:=hw.resolve_left f;exact zcN hg.fit (by omega) (by omega) g hw j
theorem z5j {L:Lk} (hg:Good L) (t m:Int):Good (z1B L t m):=zcR (zeU hg t m)
theorem zaD {L:Lk} (hg:Good L) (t m:Int):(z1B L t m).own=L.own∧(z1B L t m).ow.length=L.ow.length:=by
 unfold z1B z8F
 rcases z1C L hg t m with ⟨e,_⟩ | ⟨a,b,d,e,f,g,h⟩ | ⟨a,b,d,e,f,g,i,j,h⟩
 ·rw [e];exact ⟨rfl,rfl⟩
 ·rw [h];exact ⟨rfl,by simp [z4d]⟩
 ·rw [h];exact ⟨rfl,by simp [z32]⟩
theorem z9j {L:Lk} (hg:Good L) (t m:Int) {u:Nat} (h0:0≤z0N (z1B L t m) u):0≤z0N L u∨(u=t.toNat∧(z0f L t m).1=false∧(z0f L t m).2.1=0):=by
 have e0:z0N (z1B L t m) u=lg (z0f L t m).2.2.on u:=rfl;rw [e0] at h0
 rcases z1C L hg t m with ⟨e,_⟩ | ⟨a,b,d,e,f,g,h⟩ | ⟨a,b,d,e,f,g,i,j,h⟩
 ·rw [e] at h0;exact .inl h0
 ·rw [h] at h0;exact .inl h0
 ·rw [h] at h0 ⊢;have ht:t.toNat<L.on.length:=by rw [hg.fit.lo];omega
  by_cases e:u=t.toNat
  ·exact .inr ⟨e,rfl,rfl⟩
  ·have:=z3j (L:=L) (m:=m.toNat) ht u;rw [if_neg e] at this;have h0:0≤z0N (z32 L m.toNat t.toNat) u:=h0;rw [this] at h0;exact .inl h0
theorem z0D (L:Lk) (hg:Good L) (t m:Int) :
  ((zi L t m).2.2=L∧(zi L t m).2.1≠0∧(zi L t m).1=255) ∨
  (0≤t∧t<L.own.length∧0≤m∧m<L.ow.length∧lg L.ow m.toNat=t∧rg L.rows m.toNat=[]∧zi L t m=(255,0,z3s L m.toNat)) ∨
  (0≤t∧t<L.own.length∧0≤m∧m<L.ow.length∧lg L.ow m.toNat=t∧rg L.rows m.toNat≠[]∧zD L.now (rg L.rows m.toNat)∈rg L.rows m.toNat∧zi L t m=(zD L.now (rg L.rows m.toNat),0,z39 L m.toNat (zD L.now (rg L.rows m.toNat)).toNat)):=by
 unfold zi
 by_cases h1:0≤t∧t<L.own.length
 ·rw [if_neg (Classical.not_not.2 h1)]
  by_cases h3:0≤m∧m<L.ow.length
  ·rw [if_neg (Classical.not_not.2 h3)]
   by_cases h4:lg L.ow m.toNat=t
   ·rw [if_neg (Classical.not_not.2 h4)]
    by_cases h5:rg L.rows m.toNat=[]
    ·rw [if_pos h5];exact .inr (.inl ⟨h1.1,h1.2,h3.1,h3.2,h4,h5,rfl⟩)
    ·rw [if_neg h5];exact .inr (.inr ⟨h1.1,h1.2,h3.1,h3.2,h4,h5,z1n _ _ h5,rfl⟩)
   ·rw [if_pos h4];exact .inl ⟨rfl,by simp,rfl⟩
  ·rw [if_pos h3];exact .inl ⟨rfl,by simp,rfl⟩
 ·rw [if_pos h1];exact .inl ⟨rfl,by simp,rfl⟩
theorem z4X {L:Lk} (hg:Good L) {m:Nat} (hm:m<L.ow.length) {x:Int} (hx:x∈rg L.rows m):0≤x∧x<L.own.length∧z0N L x.toNat=m:=((hg.fit.row m hm).2 x).1 hx
theorem zbw {L:Lk} (hg:Good L) (t m:Int):Fit (zi L t m).2.2:=by
 rcases z0D L hg t m with ⟨e,_⟩ | ⟨a,b,d,e,f,g,h⟩ | ⟨a,b,d,e,f,g,i,h⟩
 ·rw [e];exact hg.fit
 ·rw [h];exact zcK hg.fit (by omega) g
 ·rw [h];have hx:=z4X hg (m:=m.toNat) (by omega) i;refine zcL hg.fit (by omega) ?_;rw [show (((zD L.now (rg L.rows m.toNat)).toNat:Nat):Int)=zD L.now (rg L.rows m.toNat) by omega];exact i
theorem z1N {L:Lk} (hg:Good L) (t m:Int):Good (zE L t m):=zcR (zbw hg t m)
theorem z2q {L:Lk} (hg:Good L) (t m:Int):(zE L t m).own=L.own∧(zE L t m).ow.length=L.ow.length:=by
 unfold zE z8F
 rcases z0D L hg t m with ⟨e,_⟩ | ⟨a,b,d,e,f,g,h⟩ | ⟨a,b,d,e,f,g,i,h⟩
 ·rw [e];exact ⟨rfl,rfl⟩
 ·rw [h];exact ⟨rfl,by simp [z3s]⟩
 ·rw [h];exact ⟨rfl,by simp [z39]⟩
theorem z2b {L:Lk} (hg:Good L) (t m:Int) {u:Nat} (h0:0≤z0N (zE L t m) u):0≤z0N L u∧(u:Int)≠(zi L t m).1∨(0≤z0N L u∧L.own.length≤u):=by
 have e0:z0N (zE L t m) u=lg (zi L t m).2.2.on u:=rfl;rw [e0] at h0;have hn:=hg.fit.n
 rcases z0D L hg t m with ⟨e,_,k⟩ | ⟨a,b,d,e,f,g,h⟩ | ⟨a,b,d,e,f,g,i,h⟩
 ·rw [e] at h0
  by_cases hu:u<L.own.length
  ·exact .inl ⟨h0,by rw [k];omega⟩
  ·exact .inr ⟨h0,by omega⟩
 ·rw [h] at h0 ⊢
  by_cases hu:u<L.own.length
  ·exact .inl ⟨h0,by show (u:Int)≠255;omega⟩
  ·exact .inr ⟨h0,by omega⟩
 ·rw [h] at h0 ⊢;have hx:=z4X hg (m:=m.toNat) (by omega) i;have hl:(zD L.now (rg L.rows m.toNat)).toNat<L.on.length:=by rw [hg.fit.lo];omega
  have h1:=z2g hl (-1) u;have h0:0≤lg (L.on.set (zD L.now (rg L.rows m.toNat)).toNat (-1)) u:=h0;rw [h1] at h0
  split at h0
  ·omega
  ·exact .inl ⟨h0,by show (u:Int)≠zD _ _;omega⟩
section
variable {c:Cf} {K:Kn}
theorem z4K (h:Inv c K):∀ n,n≤c.ts.length→Inv c (K.relev c n)∧(∀ u,((K.relev c n).T u).st=(K.T u).st)∧(K.relev c n).L=K.L
 | 0,_=>⟨h,fun _=>rfl,rfl⟩
 | n+1,hn=>by
  obtain ⟨h1,h2,h3⟩:=z4K h n (by omega);unfold Kn.relev;dsimp only
  split
  ·exact ⟨h1,h2,h3⟩
  ·have g1:=zl h1 11 n (lg (K.relev c n).L.now n) 0;have g2:=zf9 g1 n (lg (K.relev c n).L.now n).toNat;have hT:=h1.T n (by omega);have hl:0≤lg (K.relev c n).L.now n∧lg (K.relev c n).L.now n<32:=h1.L.fit.nowr n (by rw [h1.Ln];omega);have hx:z8a c n { ((K.relev c n).tell c 11 n (lg (K.relev c n).L.now n) 0).T n with lev:=lg (K.relev c n).L.now n }:=by
    rw [z01];exact ⟨hl,hT.late,hT.job,hT.rg,hT.at_,hT.st,hT.run,hT.blk,hT.on4,hT.on5,hT.on6,hT.on⟩
   refine ⟨z0t g2 (by omega) hx rfl rfl,fun u=>?_,by show (Kn.tell _ _ _ _ _ _).L=_;rw [zbe];exact h3⟩;rw [z2U];split
   ·rename_i e;subst e;rw [← h2];simp
   ·show ((Kn.tell _ _ _ _ _ _).T u).st=_;rw [z01];exact h2 u
theorem z3a (h:Inv c K):Inv c (K.relevel c):=(z4K h _ (Nat.le_refl _)).1
def z3u (c:Cf) (who:Nat):Prop:=(who<64∧who<c.ts.length)∨(64≤who∧who-64<c.ls.length)
theorem z0v (h:Inv c K) {who:Nat} (hw:z3u c who) (n:Int) {v:Int} (hv:zG v):Inv c (K.put who n v):=by
 unfold Kn.put;split
 ·rename_i e
  have ht:who<c.ts.length:=by rcases hw with a | a;exact a.2;omega
  have hT:=h.T who ht;have hx:z8a c who { K.T who with rg:=(K.T who).rg.set n.toNat v }:=⟨hT.lev,hT.late,hT.job,R8.set_rng hT.rg hv _,hT.at_,hT.st,hT.run,hT.blk,hT.on4,hT.on5,hT.on6,hT.on⟩;exact z0t h ht hx rfl rfl
 ·exact { h with irg:=R8.set_rng h.irg hv _ }
theorem z0K (h:Inv c K) {who:Nat} (hw:z3u c who) (n:Int):zG (K.reg who n):=by
 unfold Kn.reg;split
 ·rename_i e
  have ht:who<c.ts.length:=by rcases hw with a | a;exact a.2;omega
  exact (h.T who ht).rg _
 ·exact h.irg _
theorem z05 (h:Inv c K) {who:Nat} (hw:z3u c who) (i:Ins) {e:Int} (he:zG e):Inv c (K.refuse c who i e):=z0v (zl h _ _ _ _) hw _ he
theorem z6W (t:Nat) (i:Ins):zG (K.holdE c t i):=by
 unfold Kn.holdE;repeat' split
 all_goals exact ⟨by simp,by simp⟩
theorem zmU (t:Nat) (m next:Int):(K.handed c t m next).L=K.L:=by
 unfold Kn.handed;dsimp only;split
 ·simp
 ·simp [zmQ]
theorem z6n (h:Inv c K) (t:Nat) (m:Int):Inv c (K.give c t m):=by
 have hg:=h.L;have ho:=z2q hg t m;have h1:Inv c { K with L:=zE K.L t m }:=zah h (z1N hg t m) (by rw [ho.1]) ho.2 fun u hu e=>by
  rcases z2b hg t m e with f | f
  ·exact h.Lw u hu f.1
  ·exact h.Lw u hu f.1
 unfold Kn.give Kn.handed;dsimp only;have h2:=zl h1 13 t m 0
 split
 ·exact h2
 ·rename_i hne
  rcases z0D K.L hg t m with ⟨_,_,k⟩ | ⟨_,_,_,_,_,_,k⟩ | ⟨a,b,d,e,f,g,i,k⟩
  ·exact absurd k hne
  ·rw [k] at hne;exact absurd rfl hne
  ·have hx:=z4X hg (m:=m.toNat) (by omega) i;rw [k] at hne ⊢;have hlt:(zD K.L.now (rg K.L.rows m.toNat)).toNat<c.ts.length:=by rw [← h.Ln];omega
   have hst:=h.Lw _ hlt (by rw [hx.2.2];omega);refine zl (z2z h2 (z5U h2 hlt ?_ ?_ ?_ ?_ ?_) 1 ⟨by simp,by simp⟩) _ _ _ _
   all_goals simp only [z01,zbe,z5M,z5L]
   ·omega
   ·omega
   ·omega
   ·omega
   ·intro _ e0
    rcases z2b hg t m e0 with f | f
    ·rw [k] at f;have:=f.2;dsimp only at this;omega
    ·have:=h.Ln;omega
theorem z3E (t:Nat):∀ (l:List Int) (K:Kn),Inv c K→Inv c (l.foldl (fun K m=>K.give c t m) K)
 | [],_,h=>h
 | m::l,K,h=>z3E t l _ (z6n h t m)
end
section
variable {c:Cf} {K:Kn}
structure Rdy (c:Cf) (K:Kn) (t:Nat):Prop where
 lt:t<c.ts.length
 sm:∀ s,s<c.sems.length→(t:Int) ∉ (K.sm s).2
 mls:∀ q,q<c.queues.length→(t:Int) ∉ (K.ml q).S
 mlr:∀ q,q<c.queues.length→(t:Int) ∉ (K.ml q).R
 lk:¬ 0≤z0N K.L t
 clk:¬ has K.S (64+t)
theorem z2B (h:Inv c K) {t:Nat} (ht:t<c.ts.length) (hs:(K.T t).st=1):Rdy c K t:=by
 refine ⟨ht,fun s hs e=>?_,fun s hs e=>?_,fun s hs e=>?_,fun e=>?_,fun e=>?_⟩
 ·have:=(h.smr s hs _ e).2.1;simp at this;omega
 ·have:=(h.mls s hs _ e).2.1;simp at this;omega
 ·have:=(h.mlr s hs _ e).2.1;simp at this;omega
 ·have:=h.Lw t ht e;omega
 ·have:=((h.clk _ e).2.2.1 (by omega) (by have:=h.cf.nt;omega)).2;unfold z4Z at this;rw [show ((64:Int)+t-64).toNat=t by omega] at this;omega
theorem z2f (h:Inv c K) {t:Nat} (r:Rdy c K t) {x:Ts} (hx:z8a c t x):Inv c { K.setT t x with R:=z5F K.R t }:=by
 have h1:=zhp h t;exact z6p h1 r.lt hx (fun e=>absurd e r.clk) (fun l e=>absurd rfl (zdm h.R e).1) (fun e=>absurd e r.lk) (fun s hs e=>absurd e (r.sm s hs)) (fun s hs e=>absurd e (r.mls s hs)) (fun s hs e=>absurd e (r.mlr s hs))
theorem zhl (h:Inv c K) {t:Nat} (r:Rdy c K t) (status:Int) (hs:status=7∨status=8):Inv c (K.gone c t status):=by
 have hT:=h.T t r.lt;have hx:z8a c t { K.T t with st:=status }:=⟨hT.lev,hT.late,hT.job,hT.rg,hT.at_,by show 0≤status∧status≤8;omega,by show status=0∨status=1→_;omega,by show 2≤status→status≤6→_;omega,by show status=4→_;omega,by show status=5→_;omega,by show status=6→_;omega,hT.on⟩;exact z3a (z3E t _ _ (z5n (z2f h r hx) t))
theorem zag (t:Nat) (status on:Int) (i:Ins):(K.hold c t status on i).T=upd K.T t { K.T t with st:=status,on:=on }:=by
 unfold Kn.hold;dsimp only;rw [z01];by_cases e:i.d=2<;>simp only [e,if_true,if_false,Kn.setT]
theorem zf5 (t:Nat) (status on:Int) (i:Ins):(K.hold c t status on i).sm=K.sm:=by
 unfold Kn.hold;dsimp only;rw [z5M];by_cases e:i.d=2<;>simp only [e,if_true,if_false,Kn.setT]
theorem z8U (t:Nat) (status on:Int) (i:Ins):(K.hold c t status on i).ml=K.ml:=by
 unfold Kn.hold;dsimp only;rw [z5L];by_cases e:i.d=2<;>simp only [e,if_true,if_false,Kn.setT]
theorem zjc (t:Nat) (status on:Int) (i:Ins):(K.hold c t status on i).L=K.L:=by
 unfold Kn.hold;dsimp only;rw [zbe];by_cases e:i.d=2<;>simp only [e,if_true,if_false,Kn.setT]
theorem zaj (h:Inv c K) {t:Nat} (r:Rdy c K t) {S:List Ck} (hS:SOk S) (hc:∀ id,has S id→has K.S id∨id=64+t) {status on:Int} {i:Ins} (hd:i.d≠2∨S=K.S)
  (hx:z8a c t { K.T t with st:=status,on:=on }) (hsl:(∃ id,has S id∧¬ has K.S id)∨i.d=2→z4Z { K.T t with st:=status,on:=on }):Inv c ({ K with S:=S }.hold c t status on i):=by
 have h1:Inv c { { K with S:=S }.setT t { K.T t with st:=status,on:=on } with R:=z5F K.R t }:=by
  refine zhk (z2f h r hx) hS fun id hid=>?_
  by_cases e:has K.S id
  ·exact (z2f h r hx).clk id e
  ·have e2:=(hc id hid).resolve_left e;subst e2;refine ⟨by omega,fun a=>by omega,fun a b=>⟨by have:=r.lt;omega,?_⟩,fun a=>by have:=h.cf.nt;have:=r.lt;omega⟩;show z4Z (upd K.T t _ _);rw [show ((64:Int)+t-64).toNat=t by omega,zK];exact hsl (.inl ⟨_,hid,e⟩)
 unfold Kn.hold;dsimp only;refine zl ?_ 9 t on 0
 by_cases e:i.d=2
 ·rw [if_pos e];have e2:=hd.resolve_left (fun f=>f e);subst e2;have ck:zeH c (upd K.T t { K.T t with st:=status,on:=on }) (64+t):=by
   refine ⟨by omega,fun a=>by omega,fun a b=>⟨by have:=r.lt;omega,?_⟩,fun a=>by have:=h.cf.nt;have:=r.lt;omega⟩;rw [show ((64:Int)+t-64).toNat=t by omega,zK];exact hsl (.inr e)
  have g:=z4p h1 (id:=64+t) (t:=(K.T t).rg.get i.c.toNat) ck;dsimp only [Kn.setT] at g ⊢;exact g
 ·rw [if_neg e];exact h1
theorem z4J (h:Inv c K) {t:Nat} (r:Rdy c K t) {status on:Int} {i:Ins} (hx:z8a c t { K.T t with st:=status,on:=on }) (hsl:i.d=2→z4Z { K.T t with st:=status,on:=on }):Inv c (K.hold c t status on i) :=
 zaj (S:=K.S) h r h.S (fun _ a=>.inl a) (.inr rfl) hx (fun e=>by
  rcases e with ⟨_,a,b⟩ | e
  ·exact absurd a b
  ·exact hsl e)
theorem z5N (h:Inv c K) {t:Nat} (ht:t<c.ts.length) (h1:1≤(K.T t).at_∧(K.T t).at_≤(tcg c t).code.length) {status on:Int} (hs:2≤status∧status≤6)
  (h4:status=4→64≤on∧on<64+c.sems.length) (h5:status=5→96≤on∧on<96+c.queues.length) (h6:status=6→128≤on∧on<128+c.queues.length) (ho:0≤on∧on<160):z8a c t { K.T t with st:=status,on:=on }:=by
 have hT:=h.T t ht;exact ⟨hT.lev,hT.late,hT.job,hT.rg,hT.at_,by show 0≤status∧status≤8;omega,by show status=0∨status=1→_;omega,fun _ _=>h1,h4,h5,h6,ho⟩
theorem z9x {l:List Int} (h:∀ w∈l,zG w) (n:Nat) {v:Int} (hv:zG v):∀ w∈l.set n v,zG w:=fun w hw=>by
 rcases List.mem_or_eq_of_mem_set hw with e | rfl
 ·exact h w e
 ·exact hv
theorem zcg {l:List Int} (h:∀ w∈l,zG w) (n:Nat):zG (l.getD n 0):=by
 by_cases e:n<l.length
 ·simp [List.getD,e];exact h _ (List.getElem_mem e)
 ·simp [List.getD,e];exact ⟨by simp,by simp⟩
theorem zi0 {q:Mq} (h:MqW q) (t:Int) {v:Int} (hv:zG v):MqW (q.hold t v):=by
 unfold Mq.hold;repeat' split
 ·exact h
 ·exact ⟨h.c,z9x h.h _ hv⟩
 ·exact h
theorem zfW {q:Mq} (h:MqW q) (t:Int):MqW (q.await t):=by
 unfold Mq.await;split
 ·exact h
 ·exact ⟨h.c,h.h⟩
theorem zdd {q:Mq} (h:MqW q) (lv:List Int) {v:Int} (hv:zG v):MqW (q.send lv v):=by
 unfold Mq.send;repeat' split
 ·exact ⟨h.c,h.h⟩
 ·exact h
 ·exact ⟨z9x h.c _ hv,h.h⟩
theorem zdc {q:Mq} (h:MqW q) (lv:List Int):MqW (q.recv lv):=by
 unfold Mq.recv;repeat' split
 ·exact h
 ·exact ⟨h.c,h.h⟩
 ·exact ⟨z9x h.c _ (zcg h.h _),h.h⟩
theorem z7y {q:Mq} (h:MqW q):zG q.recvV:=by
 unfold Mq.recvV;split
 ·exact ⟨by simp,by simp⟩
 ·exact zcg h.c _
structure z20 (c:Cf) (K:Kn) (t:Nat):Prop where
 st:(K.T t).st=1
 at_:1≤(K.T t).at_∧(K.T t).at_≤(tcg c t).code.length
theorem z5u {l:List Int} {t x:Int} (h:x∈z1h l t):x∈l∨x=t:=by
 unfold z1h at h;split at h
 ·rw [List.mem_append,List.mem_singleton] at h;exact h
 ·exact .inl h
theorem z1b {who:Nat} (n v:Int) (u:Nat):((K.put who n v).T u).st=(K.T u).st∧((K.put who n v).T u).on=(K.T u).on∧((K.put who n v).T u).at_=(K.T u).at_:=by
 unfold Kn.put;split
 ·rw [z2U];split
  ·rename_i e;subst e;exact ⟨rfl,rfl,rfl⟩
  ·exact ⟨rfl,rfl,rfl⟩
 ·exact ⟨rfl,rfl,rfl⟩
theorem zmt {who:Nat} (n v:Int):(K.put who n v).sm=K.sm:=by unfold Kn.put;split<;>rfl
theorem zg8 {who:Nat} (n v:Int):(K.put who n v).ml=K.ml:=by unfold Kn.put;split<;>rfl
theorem zms {who:Nat} (n v:Int):(K.put who n v).L=K.L:=by unfold Kn.put;split<;>rfl
theorem zo9 {who:Nat} (n v:Int):(K.put who n v).S=K.S:=by unfold Kn.put;split<;>rfl
theorem zjv {q:Mq} (lv:List Int) (v x:Int) (h:x∈(q.send lv v).S):x∈q.S:=by
 unfold Mq.send at h;repeat' split at h
 all_goals exact h
theorem zju {q:Mq} (lv:List Int) (v x:Int) (h:x∈(q.send lv v).R):x∈q.R:=by
 unfold Mq.send at h;repeat' split at h
 ·exact List.mem_of_mem_erase h
 ·exact h
 ·exact h
theorem zjp {q:Mq} (lv:List Int) (x:Int) (h:x∈(q.recv lv).R):x∈q.R:=by
 unfold Mq.recv at h;repeat' split at h
 all_goals exact h
theorem zjq {q:Mq} (lv:List Int) (x:Int) (h:x∈(q.recv lv).S):x∈q.S:=by
 unfold Mq.recv at h;repeat' split at h
 ·exact h
 ·exact h
 ·exact List.mem_of_mem_erase h
theorem zhq (h:Inv c K) {who:Nat} (hw:z3u c who) (hc:who<64→z20 c K who) {i:Ins} (hi:zI i) (hm:64≤who→i.d=1) (hq:i.k<c.queues.length):Inv c (K.send c who i):=by
 have hk:((i.k.toNat:Nat):Int)=i.k:=by have:=hi.k.1;omega
 have hlt:i.k.toNat<c.queues.length:=by omega
 have hQ:=h.ml _ hlt;have hv:=z0K h hw i.b;unfold Kn.send;dsimp only
 split
 ·split
  ·refine z05 h hw i ?_;unfold Mq.sendE;repeat' split
   all_goals exact ⟨by simp,by simp⟩
  ·rename_i hne hd
   split
   ·rename_i h0
    have ht:who<64:=by
     rcases Nat.lt_or_ge who 64 with a | a
     ·exact a
     ·exact absurd (hm a) hd
    have htl:who<c.ts.length:=by rcases hw with a | a;exact a.2;omega
    obtain ⟨s1,s2⟩:=hc ht;have hr:=z2B h htl s1;have hh:=z4J h hr (status:=5) (on:=96+i.k) (i:=i) (z5N h htl s2 (by omega) (by omega) (by omega) (by omega) (by have:=hi.k.1;have:=h.cf.nq;omega)) (fun _=>.inr (.inr (.inl rfl)));have hQ2:(K.hold c who 5 (96+i.k) i).ml=K.ml:=z8U _ _ _ _;have hT2:(K.hold c who 5 (96+i.k) i).T=upd K.T who { K.T who with st:=5,on:=96+i.k }:=zag _ _ _ _;rw [show ((K.hold c who 5 (96+i.k) i).ml i.k.toNat)=K.ml i.k.toNat by rw [hQ2]];refine z5R hh hlt (zfU hQ.1 (who:Int) (K.reg who i.b)) (zi0 hQ.2 (who:Int) hv) ?_ ?_
    ·intro x hx;have:x∈(K.ml i.k.toNat).S∨x=who:=by
      unfold Mq.hold at hx;repeat' split at hx
      ·exact .inl hx
      ·exact z5u hx
      ·exact .inl hx
     rcases this with e | rfl
     ·have:=hh.mls _ hlt x (by rw [hQ2];exact e);exact this
     ·rw [hT2];simp;omega
    ·intro x hx;have:x∈(K.ml i.k.toNat).R:=by
      unfold Mq.hold at hx;repeat' split at hx
      all_goals exact hx
     exact hh.mlr _ hlt x (by rw [hQ2];exact this)
   ·exact z05 h hw i (z6W _ _)
 ·rename_i hz
  have h1:=z5R h hlt (zaH hQ.1 K.L.now (K.reg who i.b)) (zdd hQ.2 K.L.now hv) (fun x hx=>h.mls _ hlt x (zjv _ _ _ hx)) (fun x hx=>h.mlr _ hlt x (zju _ _ _ hx));have h2:=z0v h1 hw i.a (v:=0) ⟨by simp,by simp⟩;have h3:=zl h2 16 who i.k (K.reg who i.b)
  split
  ·exact h3
  ·rename_i hne
   have hR:(K.ml i.k.toNat).R≠[]:=by
    intro e;apply hne;unfold Mq.sendT;simp [e]
   have e1:(K.ml i.k.toNat).sendT K.L.now=zD K.L.now (K.ml i.k.toNat).R:=by unfold Mq.sendT;rw [if_pos hR]
   have hb:=z1n K.L.now _ hR;rw [e1];obtain ⟨g1,g2,g3⟩:=h.mlr _ hlt _ hb;have g0:=(hQ.1.r.2 _ hb).1;generalize hg:zD K.L.now (K.ml i.k.toNat).R=g at *;obtain ⟨u,rfl⟩:∃ u:Nat,g=u:=⟨g.toNat,by omega⟩;simp only [Int.toNat_natCast] at *;have hul:u<c.ts.length:=by omega
   have hu64:u<64:=by have:=h.cf.nt;omega
   have h4:=z0v h3 (who:=u) (.inl ⟨hu64,hul⟩) ((Kn.tell (Kn.put { K with ml:=upd K.ml i.k.toNat ((K.ml i.k.toNat).send K.L.now (K.reg who i.b)) } who i.a 0) c 16 who i.k (K.reg who i.b)).call c u).b hv;have h5:=zl h4 17 u i.k (K.reg who i.b);have st:∀ a b,(((Kn.tell (Kn.put { K with ml:=upd K.ml i.k.toNat ((K.ml i.k.toNat).send K.L.now (K.reg who i.b)) } who i.a 0) c 16 who i.k (K.reg who i.b)).put u a b).T u).st=6∧(((Kn.tell (Kn.put { K with ml:=upd K.ml i.k.toNat ((K.ml i.k.toNat).send K.L.now (K.reg who i.b)) } who i.a 0) c 16 who i.k (K.reg who i.b)).put u a b).T u).on=128+i.k:=by
    intro a b;rw [(z1b _ _ _).1,(z1b _ _ _).2.1,z01,(z1b _ _ _).1,(z1b _ _ _).2.1];exact ⟨g2,by rw [g3];omega⟩
   refine z2z h5 (z5U h5 hul ?_ ?_ ?_ ?_ ?_) 1 ⟨by simp,by simp⟩
   all_goals simp only [z01,z5L,z5M,zg8,(st _ _).1,(st _ _).2]
   ·omega
   ·omega
   ·omega
   ·intro _ r hr;have:r=i.k.toNat:=by omega
    subst this;rw [zK];unfold Mq.send;rw [if_pos hR,hg];exact z2R hQ.1.r _
   ·omega
theorem zho (h:Inv c K) {who:Nat} (hw:z3u c who) (hc:who<64→z20 c K who) {i:Ins} (hi:zI i) (hm:64≤who→i.d=1) (hq:i.k<c.queues.length):Inv c (K.recv c who i):=by
 have hk:((i.k.toNat:Nat):Int)=i.k:=by have:=hi.k.1;omega
 have hlt:i.k.toNat<c.queues.length:=by omega
 have hQ:=h.ml _ hlt;have hv:=z7y hQ.2;unfold Kn.recv;dsimp only
 split
 ·split
  ·refine z05 h hw i ?_;unfold Mq.recvE;repeat' split
   all_goals exact ⟨by simp,by simp⟩
  ·rename_i hne hd
   split
   ·rename_i h0
    have ht:who<64:=by
     rcases Nat.lt_or_ge who 64 with a | a
     ·exact a
     ·exact absurd (hm a) hd
    have htl:who<c.ts.length:=by rcases hw with a | a;exact a.2;omega
    obtain ⟨s1,s2⟩:=hc ht;have hr:=z2B h htl s1;have hh:=z4J h hr (status:=6) (on:=128+i.k) (i:=i) (z5N h htl s2 (by omega) (by omega) (by omega) (by omega) (by have:=hi.k.1;have:=h.cf.nq;omega)) (fun _=>.inr (.inr (.inr rfl)));have hQ2:(K.hold c who 6 (128+i.k) i).ml=K.ml:=z8U _ _ _ _;have hT2:(K.hold c who 6 (128+i.k) i).T=upd K.T who { K.T who with st:=6,on:=128+i.k }:=zag _ _ _ _;rw [show ((K.hold c who 6 (128+i.k) i).ml i.k.toNat)=K.ml i.k.toNat by rw [hQ2]];refine z5R hh hlt (ze6 hQ.1 (who:Int)) (zfW hQ.2 (who:Int)) ?_ ?_
    ·intro x hx;have:x∈(K.ml i.k.toNat).S:=by
      unfold Mq.await at hx;split at hx
      all_goals exact hx
     exact hh.mls _ hlt x (by rw [hQ2];exact this)
    ·intro x hx;have:x∈(K.ml i.k.toNat).R∨x=who:=by
      unfold Mq.await at hx;split at hx
      ·exact .inl hx
      ·exact z5u hx
     rcases this with e | rfl
     ·exact hh.mlr _ hlt x (by rw [hQ2];exact e)
     ·rw [hT2];simp;omega
   ·exact z05 h hw i (z6W _ _)
 ·rename_i hz
  have h1:=z5R h hlt (z7m hQ.1 K.L.now) (zdc hQ.2 K.L.now) (fun x hx=>h.mls _ hlt x (zjq _ _ hx)) (fun x hx=>h.mlr _ hlt x (zjp _ _ hx));have h2:=z0v h1 hw i.b hv;have h2':=z0v h2 hw i.a (v:=0) ⟨by simp,by simp⟩;have h3:=zl h2' 17 who i.k (K.ml i.k.toNat).recvV
  split
  ·exact h3
  ·rename_i hne
   have hS:¬ ((K.ml i.k.toNat).n=0∨(K.ml i.k.toNat).S=[]):=by
    intro e;apply hne;unfold Mq.recvT;rw [if_pos e]
   have e1:(K.ml i.k.toNat).recvT K.L.now=zD K.L.now (K.ml i.k.toNat).S:=by unfold Mq.recvT;rw [if_neg hS]
   have hb:=z1n K.L.now (K.ml i.k.toNat).S (fun e=>hS (.inr e));rw [e1];obtain ⟨g1,g2,g3⟩:=h.mls _ hlt _ hb;have g0:=(hQ.1.s.2 _ hb).1;generalize hg:zD K.L.now (K.ml i.k.toNat).S=g at *;obtain ⟨u,rfl⟩:∃ u:Nat,g=u:=⟨g.toNat,by omega⟩;simp only [Int.toNat_natCast] at *;have hul:u<c.ts.length:=by omega
   generalize hK:Kn.tell (((Kn.put { K with ml:=upd K.ml i.k.toNat ((K.ml i.k.toNat).recv K.L.now) } who i.b (K.ml i.k.toNat).recvV)).put who i.a 0) c 17 who i.k (K.ml i.k.toNat).recvV=K1 at h3 ⊢;have hst:(K1.T u).st=5∧(K1.T u).on=96+i.k:=by
    rw [← hK,z01,(z1b _ _ _).1,(z1b _ _ _).2.1,(z1b _ _ _).1,(z1b _ _ _).2.1];exact ⟨g2,by rw [g3];omega⟩
   have hml:K1.ml=upd K.ml i.k.toNat ((K.ml i.k.toNat).recv K.L.now):=by rw [← hK,z5L,zg8,zg8]
   have h4:=zl h3 16 u i.k ((K1.T u).rg.get (K1.call c u).b.toNat);refine z2z h4 (z5U h4 hul ?_ ?_ ?_ ?_ ?_) 1 ⟨by simp,by simp⟩
   all_goals simp only [z01,z5L,z5M,hml,hst.1,hst.2]
   ·omega
   ·omega
   ·intro _ r hr;have:r=i.k.toNat:=by omega
    subst this;rw [zK];unfold Mq.recv;rw [if_neg (fun e=>hS (.inl e)),if_neg (fun e=>hS (.inr e)),hg];show _ ∉ ((K.ml i.k.toNat).S.erase _);rw [hg];exact z2R hQ.1.s _
   ·omega
   ·omega
end
end Go.Proofs.YtgiiidminlhbpaaGreatDoor
