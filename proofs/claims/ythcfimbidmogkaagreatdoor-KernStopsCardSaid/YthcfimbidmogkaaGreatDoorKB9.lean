/-
  Parts of the proof: MailD KernSb RegionF Struct RegionG KernNv KernNu KernNw KernF.
-/
import Derived.Deep.MidRow
import Derived.Test.YthcfimbidmogkaaGreatDoorKB0
import Derived.Test.YthcfimbidmogkaaGreatDoorKB1
import Derived.Test.YthcfimbidmogkaaGreatDoorKB2
import Derived.Test.YthcfimbidmogkaaGreatDoorKB3
import Derived.Test.YthcfimbidmogkaaGreatDoorKB5
import Derived.Test.YthcfimbidmogkaaGreatDoorKB7
import Derived.Test.YthcfimbidmogkaaGreatDoorKB8
set_option linter.unusedVariables false
set_option linter.unusedSimpArgs false
set_option maxHeartbeats 32000000
set_option maxRecDepth 100000
namespace Go.Proofs.YthcfimbidmogkaaGreatDoor
open Go.RowKit Go.Sx
theorem znf : z1m Tryz.prog 43 25 1 4 (.int .u32 0):=⟨by kernel_rfl,by kernel_rfl,rfl⟩
theorem zfX (q : Mq) {k : Nat} (hk : k < q.n) : (z4h q).take (k + 1) = (z4h q).take k ++ [q.C.getD ((q.f + k) % 64) 0]:=by
 have h : k < (z4h q).length:=by simp [z4h,hk]
 rw [List.take_succ_eq_append_getElem h];simp [z4h]
theorem zi2 (q : Mq) : (z4h q).length = q.n:=by simp [z4h]
theorem zhR (b : Nat) (q : Mq) (w0 w : World) (F : HP) (hs : Sat w0 w (mqP b q * F)) (hok : z3Z q) :
  Calls Tryz.prog 66 #[.pointer (some ⟨b,0,none⟩)] w (Ret w0 fun v'=>z5 .u32 v' (z4h q) * (mqP b q * F)):=by
 have hC:=hok.c;have hf:=hok.f;have hn:=hok.n;have hhi:=hok.hi;have hml:=zi2 q;have hnext:=fun k (h : k < q.n)=>zfX q h;generalize hM : z4h q = M at *;clear hok hM;obtain ⟨C,f,n,room,S,R,H⟩:=q;dsimp only at hC hf hn hhi hml hnext;have c1 : World.cell? _ ⟨b,65,none⟩ = some (.int .i64 n):=(hs.perm (by unfold mqP;ac_rfl : _ = pts b 64 [.int .i64 f,.int .i64 n,.int .i64 room] * (pts b 0 (C.map (Value.int .u32)) * (zY b 67 S * (zY b 68 R * pts b 69 (H.map (Value.int .u32)))) * F))).cell (j:=1) rfl
 go_enter Tryz.func66,Tryz.ntmps66
 go_wp2_with fail
 go_loopw [3,11] (fun lv i wr=>∃ k : Nat,k ≤ n ∧ i = .int .i64 k ∧ Sat w0 wr (z5 .u32 lv (M.take k) * (mqP b ⟨C,f,n,room,S,R,H⟩ * F))) (fun _ i _=>n - (intOf i).toNat)
 case atStart=>exact ⟨0,Nat.zero_le _,rfl,hs.slice_nil 1⟩
 case round =>
  obtain ⟨k,hk,rfl,hs3⟩:=hrel;clear hs c1
  by_cases hlt : k < n
  ·have hnx:=hid (hnext k hlt);have hs4:=hs3.perm (by unfold mqP;ac_rfl : _ = pts b 64 [.int .i64 f,.int .i64 n,.int .i64 room] * (pts b 0 (C.map (Value.int .u32)) * (zY b 67 S * (zY b 68 R * pts b 69 (H.map (Value.int .u32)))) * (z5 .u32 u3 (M.take k) * F)));have c0 : World.cell? _ ⟨b,64,none⟩ = some (.int .i64 f):=hs4.cell (j:=0) rfl;have hx : (f + k) % 64 < 64:=Nat.mod_lt _ (by decide);have c5:=(hs3.perm (by unfold mqP;ac_rfl : _ = pts b 0 (C.map (Value.int .u32)) * (pts b 64 [.int .i64 f,.int .i64 n,.int .i64 room] * (zY b 67 S * (zY b 68 R * pts b 69 (H.map (Value.int .u32)))) * (z5 .u32 u3 (M.take k) * F)))).cell (j:=(f + k) % 64) (v:=.int .u32 (C.getD ((f + k) % 64) 0)) (by simp [List.getD,hC,hx]);have hrem : Int.tmod (IntKind.i64.wrap ((f : Int) + (k : Int))) 64 = (((f + k) % 64 : Nat) : Int):=by
    rw [show IntKind.i64.wrap ((f : Int) + (k : Int)) = ((f + k : Nat) : Int) by rw [IntKind.wrap_i64];omega,zgm]
   have csq : ∀ (w' : World) (F' : HP),Sat w0 w' (mqP b ⟨C,f,n,room,S,R,H⟩ * F') → w'.cell? ⟨b,64,none⟩ = some (.int .i64 f) ∧ w'.cell? ⟨b,(f + k) % 64,none⟩ = some (.int .u32 (C.getD ((f + k) % 64) 0)):=by
    intro w' F' h';have h2:=h'.perm (by unfold mqP;ac_rfl : _ = pts b 64 [.int .i64 f,.int .i64 n,.int .i64 room] * (pts b 0 (C.map (Value.int .u32)) * (zY b 67 S * (zY b 68 R * pts b 69 (H.map (Value.int .u32)))) * F'));have h3:=(h'.perm (by unfold mqP;ac_rfl : _ = pts b 0 (C.map (Value.int .u32)) * (pts b 64 [.int .i64 f,.int .i64 n,.int .i64 room] * (zY b 67 S * (zY b 68 R * pts b 69 (H.map (Value.int .u32)))) * F'))).cell (j:=(f + k) % 64) (v:=.int .u32 (C.getD ((f + k) % 64) 0)) (by simp [List.getD,hC,hx]);rw [Nat.zero_add] at h3;exact ⟨h2.cell (j:=0) rfl,h3⟩
   generalize (f + k) % 64 = m at *;generalize C.getD m 0 = x at *;rw [Nat.zero_add] at c5;have d64 : decide (m < 64) = true:=by simp [hx]
   have hxI : (m : Int) < 64:=by omega
   have hlen : (M.take k).length = k:=by rw [List.length_take,hml];omega
   have hlen:=hid hlen;clear hnext hs4;have hs5:=hs3.drew;have cs : ∀ w' : World,(∃ F',Sat w0 w' (mqP b ⟨C,f,n,room,S,R,H⟩ * F')) → w'.cell? ⟨b,64,none⟩ = some (.int .i64 f) ∧ w'.cell? ⟨b,m,none⟩ = some (.int .u32 x):=by
    rintro w' ⟨F',h'⟩;exact csq w' F' h'
   go_wp2_with fail;refine zj (fun w'=>w'.cell? ⟨b,64,none⟩ = some (.int .i64 f) ∧ w'.cell? ⟨b,m,none⟩ = some (.int .u32 x)) [(0,true),(1,true),(2,true),(3,true),(4,true),(5,true),(6,true),(7,true),(8,true),(9,true),(10,true),(11,true),(12,true),(13,false),(14,false),(15,true)] (by kernel_rfl) (by kernel_rfl) (fun _ _ _ _ h=>h) ⟨c0,c5⟩ ?_
   iterate 13 (refine zf (fun K hK=>?_);simp only [zqS,zqZ]; (first | (rw [if_pos (by rfl)];apply Exists.intro;refine ⟨fun w hSw=>?_,hK _ ?_⟩; (focus ((try dsimp only at hSw);obtain ⟨hSw,hSw2⟩:=hSw;go_simp;try with_reducible rfl))) | (rw [if_neg (ne_true_of_eq_false (by rfl))];refine hK _ ?_));clear hK K;simp only [Act.put,zqA,zqP,zqQ])
   clear c0 c5 hs3 csq;generalize wr.drew = w1 at *;refine ze (fun K hK=>?_);simp only [zqS,zqZ];rw [if_pos (by rfl)];go_wp2_with fail;refine ⟨cs _ ⟨_,(hs5.alloc _ _).drop.perm (by ac_rfl : _ = mqP b ⟨C,f,n,room,S,R,H⟩ * (z5 .u32 u3 (M.take k) * F))⟩,?_⟩;refine ze (fun K hK=>?_);simp only [zqS,zqZ];rw [if_pos (by rfl)];refine z3n (.tmp 14) (.tmp 27) (by rfl) znf (by rfl) hs5 (by rfl) (by rfl) (by simp [Value.oneCell']) (by rw [hlen.out];unfold maxLen;omega) (by rw [hlen.out];omega) ?_;intro v' w3 hs9 _;refine hK _ _ ⟨cs _ ⟨_,hs9.perm (by ac_rfl : _ = mqP b ⟨C,f,n,room,S,R,H⟩ * (zX 1 v' ((M.take k).length + 1) ((M.take k).map (Value.int .u32) ++ [Value.int .u32 x]) * F))⟩,?_⟩;clear hK K hs5;simp only [Act.put,zqA,zqP,zqQ]
   iterate 1 (refine zf (fun K hK=>?_);simp only [zqS,zqZ]; (first | (rw [if_pos (by rfl)];apply Exists.intro;refine ⟨fun w hSw=>?_,hK _ ?_⟩; (focus ((try dsimp only at hSw);obtain ⟨hSw,hSw2⟩:=hSw;go_simp;try with_reducible rfl))) | (rw [if_neg (ne_true_of_eq_false (by rfl))];refine hK _ ?_));clear hK K;simp only [Act.put,zqA,zqP,zqQ])
   refine zB ?_;clear cs;go_wp2_with fail;go_roundw
   case rel =>
    refine ⟨k + 1,by omega,by go_num,?_⟩;rw [hnx.out];unfold z5;rw [List.length_append,List.map_append];exact hs9
   case measure=>simp [intOf];omega
  ·have hk' : M.take k = M:=List.take_of_length_le (by omega);rw [hk'] at hs3;go_wp2_with fail;go_ret;exact ⟨_,rfl,hs3⟩
end Go.Proofs.YthcfimbidmogkaaGreatDoor
namespace Go.Proofs.YthcfimbidmogkaaGreatDoor
open Go.RowKit Go.Sx Go.Dl Go.Lk Go.Rq Go.Au
section
variable (b : Nat) (x : Fx) (c : Cf) (K : Kn) (w0 w : World) (F : HP) (hs : Sat w0 w (knP b x c K * F))
include hs
theorem znl (l : Nat) (hl : l < 32) : Calls Tryz.prog 61 #[.pointer (some ⟨b,260,none⟩),.int .i64 l] w (Ret w0 fun v=>z5 .i64 v (z2N (K.R l)) * (knP b x c K * F)) :=
 let ⟨_,h⟩:=zkp b x c K;z69 (h K.R) (h K.R) hs fun hs=>zkW b 260 K.R l w0 w _ hs hl
theorem zkf (s : Nat) (h : s < c.queues.length) (ok : z3Z (K.ml s)) : Calls Tryz.prog 66 #[.pointer (some ⟨x.qb s,0,none⟩)] w (Ret w0 fun v=>z5 .u32 v (z4h (K.ml s)) * (knP b x c K * F)) :=
 let ⟨_,e⟩:=z1Q (b:=b) (x:=x) (K:=K) h;z69 ((z0I b x c K s).symm.trans (e (K.ml s))) ((z0I b x c K s).symm.trans (e (K.ml s))) hs fun hs=>zhR (x.qb s) _ w0 w _ hs ok
theorem zdU (s : Nat) (h : s < c.queues.length) (ok : z3Z (K.ml s)) : Calls Tryz.prog 67 #[.pointer (some ⟨x.qb s,0,none⟩)] w (Ret w0 fun v=>z5 .i64 v (K.ml s).S * (knP b x c K * F)) :=
 let ⟨_,e⟩:=z1Q (b:=b) (x:=x) (K:=K) h;z69 ((z0I b x c K s).symm.trans (e (K.ml s))) ((z0I b x c K s).symm.trans (e (K.ml s))) hs fun hs=>zc2 (x.qb s) _ w0 w _ hs ok
theorem zao (s : Nat) (h : s < c.queues.length) (ok : z3Z (K.ml s)) : Calls Tryz.prog 68 #[.pointer (some ⟨x.qb s,0,none⟩)] w (Ret w0 fun v=>z5 .i64 v (K.ml s).R * (knP b x c K * F)) :=
 let ⟨_,e⟩:=z1Q (b:=b) (x:=x) (K:=K) h;z69 ((z0I b x c K s).symm.trans (e (K.ml s))) ((z0I b x c K s).symm.trans (e (K.ml s))) hs fun hs=>z9l (x.qb s) _ w0 w _ hs ok
theorem zd1 (n : Nat) (h : n < c.ls.length) (hl : (K.mems n).length = z1w c n) (hm : z1w c n ≤ 1000) : Calls Tryz.prog 60 #[.slice ((x.mv n).ad (z1w c n)) (z1w c n) (x.mv n).cap] w (Ret w0 fun v=>z5 .u32 v (K.mems n) * (knP b x c K * F)):=by
 obtain ⟨R,e⟩:=zje (b:=b) (x:=x) (K:=K) h;have e1 : knP b x c K = pts (x.mv n).b (x.mv n).o ((K.mems n).map (Value.int .u32)) * (pts x.mm.b (x.mm.o + n) [(x.mv n).v (z1w c n)] * R):=by
  rw [← zdb b x c K n,e];unfold zex;ac_rfl
 exact z69 e1 e1 hs fun hs=>zj4 (x.mv n) (z1w c n) (K.mems n) hl w0 w _ hs hm
theorem zhC (t : Nat) (h : t < c.ts.length) (hl : (K.tm t).length = z1x c t) (hm : z1x c t ≤ 1000) : Calls Tryz.prog 60 #[.slice ((x.tv t).ad (z1x c t)) (z1x c t) (x.tv t).cap] w (Ret w0 fun v=>z5 .u32 v (K.tm t) * (knP b x c K * F)):=by
 obtain ⟨R,e⟩:=z0P (b:=b) (x:=x) (K:=K) h;have e1 : knP b x c K = pts (x.tv t).b (x.tv t).o ((K.tm t).map (Value.int .u32)) * (pts x.ta.b (x.ta.o + t * 15) (tsL (K.T t)) * (pts x.ta.b (x.ta.o + t * 15 + 5) (cxL (K.T t).at_ (K.T t).rg ((x.tv t).v (z1x c t))) * R)):=by
  rw [← z0c b x c K t,e];unfold zcp;ac_rfl
 exact z69 e1 e1 hs fun hs=>zj4 (x.tv t) (z1x c t) (K.tm t) hl w0 w _ hs hm
end
structure Sn where
 count : Int
 cycle : Int
 run : Int
 isr : Int
 iat : Int
 irg : R8
 imem : List Int
 mems : List (List Int)
 pend : Nat
 mask : Nat
 tasks : List (Ts × List Int)
 ready : List (List Int)
 owners : List Int
 lockers : List (List Int)
 sems : List Int
 takers : List (List Int)
 queues : List (List Int)
 senders : List (List Int)
 receivers : List (List Int)
 dues : List Ck
 reads : Int
 stopped : Bool
def Kn.st (c : Cf) (K : Kn) : Sn where
 count:=K.count
 cycle:=K.cycle
 run:=K.run
 isr:=K.ln.active
 iat:=if K.ln.active = 255 then 0 else K.iat
 irg:=if K.ln.active = 255 then r80 else K.irg
 imem:=if K.ln.active = 255 then [] else K.mems K.ln.active.toNat
 mems:=(List.range c.ls.length).map K.mems
 pend:=K.ln.pending
 mask:=K.ln.mask
 tasks:=(List.range c.ts.length).map fun t=>(K.T t,K.tm t)
 ready:=(List.range 32).map fun l=>z2N (K.R l)
 owners:=(List.range c.mutexes.toNat).map fun m=>z1D K.L (m : Nat)
 lockers:=(List.range c.mutexes.toNat).map fun m=>z2j K.L (m : Nat)
 sems:=(List.range c.sems.length).map fun s=>(K.sm s).1
 takers:=(List.range c.sems.length).map fun s=>(K.sm s).2
 queues:=(List.range c.queues.length).map fun q=>z4h (K.ml q)
 senders:=(List.range c.queues.length).map fun q=>(K.ml q).S
 receivers:=(List.range c.queues.length).map fun q=>(K.ml q).R
 dues:=K.S
 reads:=K.reads
 stopped:=K.stopped
abbrev Mv.v (m : Mv) : Value:=.slice m.a m.n m.c
def zZ (κ : IntKind) (ms : List Mv) (f : Nat → List Int) (k : Nat) : HP:=z0F (fun i=>z5 κ (ms.getD i mv0).v (f i)) k
theorem z2m {κ : IntKind} {ms : List Mv} {f : Nat → List Int} {k : Nat} {m : Mv} (hl : ms.length = k) : zZ κ (ms ++ [m]) f (k + 1) = z5 κ m.v (f k) * zZ κ ms f k:=by
 unfold zZ;rw [z0G,z0W]
 congr 1
 ·rw [show (ms ++ [m]).getD k mv0 = m by simp [List.getD,← hl]]
 ·refine zS fun i hi=>?_;rw [show (ms ++ [m]).getD i mv0 = ms.getD i mv0 by simp [List.getD,List.getElem?_append_left (show i < ms.length by omega)]]
def rwP (κ : IntKind) (v : Value) (ll : List (List Int)) : HP:=ex fun ms : List Mv=>pur (ms.length = ll.length) * (z7 v ms * zZ κ ms (fun i=>ll.getD i []) ll.length)
theorem z5X {κ : IntKind} {w0 w : World} {F : HP} {v : Value} {ms : List Mv} {f : Nat → List Int} {k : Nat} (hl : ms.length = k) (hs : Sat w0 w (z7 v ms * (zZ κ ms f k * F))) : Sat w0 w (rwP κ v ((List.range k).map f) * F):=by
 refine Sat.ex_in (f:=fun ms : List Mv=>pur (ms.length = ((List.range k).map f).length) * (z7 v ms * zZ κ ms (fun i=>((List.range k).map f).getD i []) ((List.range k).map f).length)) ms ?_;refine Sat.perm (Sat.pur_in (p:=ms.length = ((List.range k).map f).length) (by simpa using hl) (F:=z7 v ms * (zZ κ ms f k * F)) hs) ?_;have e : zZ κ ms (fun i=>((List.range k).map f).getD i []) ((List.range k).map f).length = zZ κ ms f k:=by
  unfold zZ;rw [List.length_map,List.length_range];exact zS fun i hi=>by dsimp only;rw [z27 (f:=f) (d:=[]) hi]
 rw [e];ac_rfl
def z9O (ts : List Tr) (f : Nat → List Int) (k : Nat) : HP:=z0F (fun i=>z5 .u32 (.slice (ts.getD i tr0).a (ts.getD i tr0).n (ts.getD i tr0).c) (f i)) k
theorem ziN {ts : List Tr} {f : Nat → List Int} {k : Nat} {m : Tr} (hl : ts.length = k) : z9O (ts ++ [m]) f (k + 1) = z5 .u32 (.slice m.a m.n m.c) (f k) * z9O ts f k:=by
 unfold z9O;rw [z0G,z0W]
 congr 1
 ·rw [show (ts ++ [m]).getD k tr0 = m by simp [List.getD,← hl]]
 ·refine zS fun i hi=>?_;rw [show (ts ++ [m]).getD i tr0 = ts.getD i tr0 by simp [List.getD,List.getElem?_append_left (show i < ts.length by omega)]]
def tkP (v : Value) (l : List (Ts × List Int)) : HP:=ex fun ts : List Tr=>pur (ts.map Tr.s = l.map Prod.fst) * (z7 v ts * z9O ts (fun i=>(l.getD i (ts0,[])).2) l.length)
theorem zjw {w0 w : World} {F : HP} {v : Value} {ts : List Tr} {f : Nat → Ts × List Int} {k : Nat} (hl : ts.map Tr.s = (List.range k).map fun i=>(f i).1) (hs : Sat w0 w (z7 v ts * (z9O ts (fun i=>(f i).2) k * F))) : Sat w0 w (tkP v ((List.range k).map f) * F):=by
 refine Sat.ex_in (f:=fun ts : List Tr=>pur (ts.map Tr.s = ((List.range k).map f).map Prod.fst) * (z7 v ts * z9O ts (fun i=>(((List.range k).map f).getD i (ts0,[])).2) ((List.range k).map f).length)) ts ?_;refine Sat.perm (Sat.pur_in (p:=ts.map Tr.s = ((List.range k).map f).map Prod.fst) (by rw [hl,List.map_map];rfl) (F:=z7 v ts * (z9O ts (fun i=>(f i).2) k * F)) hs) ?_;have e : z9O ts (fun i=>(((List.range k).map f).getD i (ts0,[])).2) ((List.range k).map f).length = z9O ts (fun i=>(f i).2) k:=by
  unfold z9O;rw [List.length_map,List.length_range];exact zS fun i hi=>by dsimp only;rw [z27 (f:=f) (d:=(ts0,[])) hi]
 rw [e];ac_rfl
structure Sv where
 im : Value
 mm : Value
 tt : Value
 rr : Value
 oo : Value
 ll : Value
 ss : Value
 kk : Value
 qq : Value
 sd : Value
 rc : Value
 dd : Value
abbrev stA (s : Sn) : List Value:=[.int .u64 s.count,.int .u64 s.cycle,.int .i64 s.run,.int .i64 s.isr]
abbrev stC (s : Sn) (y : Sv) : List Value:=[y.mm,.int .u32 s.pend,.int .u32 s.mask,y.tt,y.rr,y.oo,y.ll,y.ss,y.kk,y.qq,y.sd,y.rc,y.dd,.int .u64 s.reads,.bool s.stopped]
abbrev stL (s : Sn) (y : Sv) : List Value:=stA s ++ (cxL s.iat s.irg y.im ++ stC s y)
def stH (y : Sv) (s : Sn) : HP:=z5 .u32 y.im s.imem * (rwP .u32 y.mm s.mems * (tkP y.tt s.tasks * (rwP .i64 y.rr s.ready * (z5 .i64 y.oo s.owners * (rwP .i64 y.ll s.lockers * (z5 .i64 y.ss s.sems * (rwP .i64 y.kk s.takers * (rwP .u32 y.qq s.queues * (rwP .i64 y.sd s.senders * (rwP .i64 y.rc s.receivers * z7 y.dd s.dues))))))))))
def stP (v : Value) (s : Sn) : HP:=ex fun y : Sv=>pur (v = .agg (stL s y).toArray) * stH y s
theorem zmG {w0 w : World} {F : HP} {v : Value} {s : Sn} (y : Sv) (e : v = .agg (stL s y).toArray) (hs : Sat w0 w (stH y s * F)) : Sat w0 w (stP v s * F) :=
 Sat.ex_in (f:=fun y : Sv=>pur (v = .agg (stL s y).toArray) * stH y s) y (Sat.perm (Sat.pur_in e hs) (zb _ _ _).symm)
theorem z9H {w0 w : World} {F : HP} {v : Value} {s : Sn} (hs : Sat w0 w (stP v s * F)) : ∃ y : Sv,v = .agg (stL s y).toArray ∧ Sat w0 w (stH y s * F):=by
 obtain ⟨y,h⟩:=hs.ex_out;obtain ⟨e,h⟩:=(h.perm (zb _ _ _)).pur_out;exact ⟨y,e,h⟩
class zbm (xs : List Value) (n : Nat) : Prop where
 eq : xs.length = n
instance zbm.nil : zbm [] 0:=⟨rfl⟩
instance zbm.cons (x : Value) (xs : List Value) (n : Nat) [h : zbm xs n] : zbm (x :: xs) (n + 1):=⟨by rw [List.length_cons,h.eq]⟩
end Go.Proofs.YthcfimbidmogkaaGreatDoor
namespace Go.Sx
open Go.RowKit
def zlj (md : Region.Mode) (o : Oper) : Nat:=o.after.toList.foldr (fun e m=>if Region.binds md e = true then m ||| 2 ^ e.on else m) 0
def zlu (a m : Nat) : Bool:=(a &&& m) == a
theorem zdq {a m : Nat} : zlu a m = true ↔ ∀ k,a.testBit k = true → m.testBit k = true:=by
 unfold zlu;rw [beq_iff_eq]
 constructor
 ·intro h k hk;rw [← h,Nat.testBit_and] at hk;simp only [Bool.and_eq_true] at hk;exact hk.2
 ·intro h;refine Nat.eq_of_testBit_eq fun k=>?_;rw [Nat.testBit_and]
  cases e : a.testBit k with
  | false=>rfl
  | true=>rw [h k e];rfl
theorem zeQ (md : Region.Mode) (o : Oper) (k : Nat) : (zlj md o).testBit k = true ↔ ∃ e ∈ o.after.toList,Region.binds md e = true ∧ e.on = k:=by
 unfold zlj
 induction o.after.toList with
 | nil=>simp
 | cons e l ih =>
  rw [List.foldr_cons]
  by_cases h : Region.binds md e = true
  ·rw [if_pos h,Nat.testBit_or,Bool.or_eq_true,ih,Nat.testBit_two_pow];simp [h]
   constructor
   ·rintro (⟨a,b,c⟩ | a)
    ·exact .inr ⟨a,b,c⟩
    ·exact .inl a
   ·rintro (a | ⟨a,b,c⟩)
    ·exact .inr a
    ·exact .inl ⟨a,b,c⟩
  ·rw [if_neg h,ih];simp [h]
structure Agr (listed : Array Bool) (m n : Nat) : Prop where
 sz : listed.size = n
 eq : ∀ i,listed.getD i false = m.testBit i
theorem Agr.un {listed : Array Bool} {m n i : Nat} (h : Agr listed m n) (hi : i < n) : listed.getD i true = m.testBit i:=by
 rw [← h.eq i];have : i < listed.size:=by rw [h.sz];exact hi
 simp [Array.getD,this]
theorem Agr.set {listed : Array Bool} {m n i : Nat} (h : Agr listed m n) (hi : i < n) : Agr (listed.setIfInBounds i true) (m ||| 2 ^ i) n:=by
 refine ⟨by rw [Array.size_setIfInBounds];exact h.sz,fun k=>?_⟩;rw [Nat.testBit_or,Nat.testBit_two_pow,← h.eq k]
 by_cases e : i = k
 ·subst e;have : i < listed.size:=by rw [h.sz];exact hi
  simp [Array.getD,this]
 ·rw [getD_set_ne false e];simp [e]
def zaW (D : List Nat) (n m : Nat) : List Nat:=(List.range n).filter fun i=>!m.testBit i && zlu (D.getD i 0) m
theorem z9t {md : Region.Mode} {ops : Array Oper} {listed : Array Bool} {m : Nat} {D : List Nat} (hD : ops.toList.map (zlj md) = D) (h : Agr listed m ops.size) :
  Region.ready md ops listed = zaW D ops.size m:=by
 unfold Region.ready zaW;refine List.filter_congr fun i hi=>?_;have hi:=List.mem_range.1 hi;rw [h.un hi]
 congr 1
 have hd : D.getD i 0 = zlj md ops[i]:=by rw [← hD];simp [List.getD,hi]
 rw [hd,Array.getElem?_eq_getElem hi,Option.map_some,Option.getD_some];rw [Bool.eq_iff_iff,zdq,Array.all_eq_true_iff_forall_mem]
 constructor
 ·intro h1 k hk;obtain ⟨e,he,hb,rfl⟩:=(zeQ md _ k).1 hk;have:=h1 e (by simpa using he);rw [hb,h.eq] at this
  simpa using this
 ·intro h1 e he
  by_cases hb : Region.binds md e = true
  ·have:=h1 e.on ((zeQ md _ _).2 ⟨e,by simpa using he,hb,rfl⟩);rw [h.eq,this];simp
  ·simp [hb]
def znb (md : Region.Mode) (ops : Array Oper) (i : Nat) : Nat:=match ops[i]? with
 | none=>0
 | some oi=>(List.range ops.size).foldr (fun j m=>if j = i then m else match ops[j]? with
  | some oj=>if oj.after.any (fun e=>Region.binds md e && e.on == i) || oi.apart ops oj then m else m ||| 2 ^ j
  | none=>m) 0
theorem zh5 {md : Region.Mode} {ops : Array Oper} {listed : Array Bool} {m i : Nat} (h : Agr listed m ops.size) (hi : i < ops.size) (hb : zlu (znb md ops i) m = true) : Region.free md ops listed i = true:=by
 rw [zdq] at hb;unfold Region.free;unfold znb at hb;rw [Array.getElem?_eq_getElem hi] at hb ⊢;dsimp only at hb ⊢;have key : ∀ (l : List Nat),(∀ j ∈ l,j < ops.size) → (∀ k,Nat.testBit (l.foldr (fun j m=>if j = i then m else match ops[j]? with
  | some oj=>if oj.after.any (fun e=>Region.binds md e && e.on == i) || (ops[i]).apart ops oj then m else m ||| 2 ^ j
  | none=>m) 0) k = true → m.testBit k = true) → l.all (fun j=>j == i || listed.getD j true || match ops[j]? with
   | some oj=>oj.after.any (fun e=>Region.binds md e && e.on == i) || (ops[i]).apart ops oj
   | none=>true) = true:=by
  intro l
  induction l with
  | nil=>intro _ _;rfl
  | cons j l ih =>
   intro hl hk;rw [List.foldr_cons] at hk;have hj : j < ops.size:=hl j (List.mem_cons_self ..);rw [List.all_cons,Bool.and_eq_true];have hrest : ∀ k,Nat.testBit (l.foldr (fun j m=>if j = i then m else match ops[j]? with
    | some oj=>if oj.after.any (fun e=>Region.binds md e && e.on == i) || (ops[i]).apart ops oj then m else m ||| 2 ^ j
    | none=>m) 0) k = true → m.testBit k = true:=by
    intro k hk2;refine hk k ?_
    split
    ·exact hk2
    ·split
     ·split
      ·exact hk2
      ·rw [Nat.testBit_or,hk2];rfl
     ·exact hk2
   refine ⟨?_,ih (fun x hx=>hl x (List.mem_cons_of_mem _ hx)) hrest⟩
   by_cases e : j = i
   ·simp [e]
   ·rw [if_neg e,Array.getElem?_eq_getElem hj] at hk;rw [Array.getElem?_eq_getElem hj];dsimp only at hk ⊢
    by_cases e2 : (ops[j].after.any (fun e=>Region.binds md e && e.on == i) || (ops[i]).apart ops ops[j]) = true
    ·rw [e2];simp
    ·rw [if_neg e2] at hk;have:=hk j (by rw [Nat.testBit_or,Nat.testBit_two_pow];simp);rw [h.un hj,this];simp
 exact key _ (fun j hj=>List.mem_range.1 hj) hb
def z7O (md : Region.Mode) (ops : Array Oper) (D : List Nat) (n : Nat) : z58 → Nat → Bool
 | .done,m=>(zaW D n m).isEmpty
 | .read i p,m=>decide (i < n) && !m.testBit i && zlu (D.getD i 0) m && zlu (znb md ops i) m && z7O md ops D n p (m ||| 2 ^ i)
 | .run i p,m=>decide (i < n) && (zaW D n m == [i]) && z7O md ops D n p (m ||| 2 ^ i)
 | .alt i p j q,m=>decide (i < n) && decide (j < n) && (zaW D n m == [i,j]) && (p.size == q.size) && z7O md ops D n p (m ||| 2 ^ i) && z7O md ops D n q (m ||| 2 ^ j)
 | .alt3 _ _ _ _ _ _,_=>false
theorem z2Z {md : Region.Mode} {ops : Array Oper} {D : List Nat} (hD : ops.toList.map (zlj md) = D) : ∀ (p : z58) (m : Nat) (listed : Array Bool),Agr listed m ops.size → z7O md ops D ops.size p m = true → z3i md ops p listed = true
 | .done,m,listed,h,hN=>by
  unfold z7O at hN;unfold z3i;rw [z9t hD h];exact hN
 | .read i p,m,listed,h,hN=>by
  simp only [z7O,Bool.and_eq_true,decide_eq_true_eq,Bool.not_eq_true'] at hN;obtain ⟨⟨⟨⟨h1,h2⟩,h3⟩,h4⟩,h5⟩:=hN;simp only [z3i,Bool.and_eq_true];refine ⟨⟨?_,zh5 h h1 h4⟩,z2Z hD p _ _ (h.set h1) h5⟩;rw [z9t hD h];simp only [List.contains_iff_mem];exact List.mem_filter.2 ⟨List.mem_range.2 h1,by rw [h2,h3];rfl⟩
 | .run i p,m,listed,h,hN=>by
  simp only [z7O,Bool.and_eq_true,decide_eq_true_eq] at hN;obtain ⟨⟨h1,h2⟩,h5⟩:=hN;simp only [z3i,Bool.and_eq_true];exact ⟨by rw [z9t hD h];exact h2,z2Z hD p _ _ (h.set h1) h5⟩
 | .alt i p j q,m,listed,h,hN=>by
  simp only [z7O,Bool.and_eq_true,decide_eq_true_eq] at hN;obtain ⟨⟨⟨⟨⟨h1,h2⟩,h3⟩,h4⟩,h5⟩,h6⟩:=hN;simp only [z3i,Bool.and_eq_true];exact ⟨⟨⟨by rw [z9t hD h];exact h3,h4⟩,z2Z hD p _ _ (h.set h1) h5⟩,z2Z hD q _ _ (h.set h2) h6⟩
 | .alt3 _ _ _ _ _ _,_,_,_,hN=>by simp [z7O] at hN
def z7P (ops : Array Oper) (D : List Nat) (n : Nat) (plan : z58) : Bool :=
 (ops.size == n) && Region.noSelect ops && (plan.size == n) && (ops.toList.map (zlj .any) == D) && z7O .any ops D n plan 0
theorem z87 {ops : Array Oper} {D : List Nat} {n : Nat} {plan : z58} (h : z7P ops D n plan = true) : z54 ops plan = true:=by
 simp only [z7P,Bool.and_eq_true,beq_iff_eq] at h;obtain ⟨⟨⟨⟨rfl,h1⟩,h2⟩,h3⟩,h4⟩:=h;simp only [z54,Bool.and_eq_true,beq_iff_eq];refine ⟨⟨h1,h2⟩,z2Z h3 plan 0 _ ⟨by simp,fun i=>?_⟩ h4⟩;simp [Array.getD]
theorem z2t {P : Program} {ops : Array Oper} {Q : Exit → Act → World → Prop} {id : Nat} {a : Act} {w : World} (S : World → Prop) (D : List Nat) (n : Nat) (plan : z58) (hm : P.follows .mixedOrders = true) (hB : z7P ops D n plan = true)
  (hQ : ∀ (t : Array Value) c (a : Act) w,Q (.panic c) { a with tmps:=t } w → Q (.panic c) a w) (hS : S w.drew) (h : z08 P ops Q S plan a w.drew) : (Code.region id ops true).wp P Q a w :=
 z4l S plan hm (z87 hB) hQ hS h
section
variable {P : Program} {l : List Oper} {Q : Exit → Act → World → Prop} {S : World → Prop} {i : Nat} {p : z58} {a : Act} {w w' : World} {o : Oper}
theorem z9L (ho : l[i]? = some o) (hg : o.guard = none) (h : o.wp P a w (fun a' w'=>∃ S' : World → Prop,(∀ w,S' w → S w) ∧ S' w' ∧ z08 P l.toArray Q S' p a' w') Q) : z08 P l.toArray Q S (.run i p) a w:=by
 show wpOp P l.toArray Q i _ a w;unfold wpOp;have e : l.toArray[i]? = l[i]?:=by simp
 rw [e,ho];show if Region.wanted o (yielded l.toArray a.tmps) = true then _ else _;rw [if_pos (show Region.wanted o (yielded l.toArray a.tmps) = true by simp [Region.wanted,hg])];exact .inl h
theorem z0d {R : Ending → World → Prop} {f : FuncId} {vals : Array Value} (ho : l[i]? = some o) (hg : o.guard = none) (hx : (execOp a.eval o).run P w = .ok (.enter f vals) w) (hc : Calls P f vals w R)
  (hk : ∀ e w',R e w' → ∃ v,e = .returned v ∧ ∃ S' : World → Prop,(∀ w,S' w → S w) ∧ S' w' ∧ z08 P l.toArray Q S' p (a.put o.dst v) w') : z08 P l.toArray Q S (.run i p) a w:=by
 refine z9L ho hg ?_;unfold Oper.wp;rw [hx,Oper.upon_enter];refine hc.mono ?_;intro e w' hr;obtain ⟨v,rfl,h⟩:=hk e w' hr;exact h
theorem ziP {v : Value} (ho : l[i]? = some o) (hg : o.guard = none) (hx : (execOp a.eval o).run P w = .ok (.value v) w') (hk : ∃ S' : World → Prop,(∀ w,S' w → S w) ∧ S' w' ∧ z08 P l.toArray Q S' p (a.put o.dst v) w') : z08 P l.toArray Q S (.run i p) a w:=by
 refine z9L ho hg ?_;unfold Oper.wp;rw [hx];exact hk
end
section
variable {P : Program} {w0 w : World} {F : HP} {b o : Nat} {cells old : List Value} {ty : TypeId} {x y : Operand} {op : Oper} {a : Act} {Q : Exit → Act → World → Prop}
theorem Sat.there (hs : Sat w0 w (pts b o old * F)) {n : Nat} (hn : n ≤ old.length) : w.there b o n:=fun j hj =>
 ⟨by rw [hs.cell (List.getElem?_eq_getElem (show j < old.length by omega))];rfl,hs.frz (by omega)⟩
theorem Sat.range (hs : Sat w0 w (pts b o cells * F)) : w.rangeAt b o cells:=fun _ _ hj=>hs.cell hj
theorem Sat.stored (hs : Sat w0 w (pts b o old * F)) (hl : cells.length = old.length) : Sat w0 (w.setCells b o cells) (pts b o cells * F):=by
 have h:=Sat.setCells (b:=b) (o:=o) (F:=F) cells w [] old (hs.perm (by simp)) (by omega);have e : old.drop cells.length = []:=List.drop_eq_nil_of_le (by omega);rw [e] at h
 simpa using h
theorem z62 {K : Act → World → Prop} (ho : op.op = .store ty x y) (hx : a.eval x = .pointer (some ⟨b,o,none⟩)) (hy : a.eval y = .agg cells.toArray) (hs : Sat w0 w (pts b o old * F)) (hl : cells.length = old.length)
  (hi : (P.info? ty).map (·.size) = some cells.length) (h1 : cells.all (·.oneCell') = true) (h : ∀ w',Sat w0 w' (pts b o cells * F) → K (a.put op.dst undef) w') : op.wp P a w K Q :=
 wp_store_mid ty x y ho b o cells.toArray hx hy (by simpa [hl] using hs.there (Nat.le_refl _)) (by simpa using hi) (by simpa using h1) (h _ (by simpa using hs.stored hl))
theorem z09 {ops : Array Oper} {rest : List Oper} (hgd : op.guard = none) (ho : op.op = .store ty x y) (hx : a.eval x = .pointer (some ⟨b,o,none⟩)) (hy : a.eval y = .agg cells.toArray) (hs : Sat w0 w (pts b o old * F)) (hl : cells.length = old.length)
  (hi : (P.info? ty).map (·.size) = some cells.length) (h1 : cells.all (·.oneCell') = true) (h : ∀ w',Sat w0 w' (pts b o cells * F) → wpList P ops Q rest (a.put op.dst undef) w') : wpList P ops Q (op :: rest) a w :=
 wpList_plain hgd fun _ hK=>z62 ho hx hy hs hl hi h1 fun w' h2=>hK _ _ (h w' h2)
theorem z1u {ops : Array Oper} {rest : List Oper} {d : TypeDesc} (hgd : op.guard = none) (ho : op.op = .load ty x) (hx : a.eval x = .pointer (some ⟨b,o,none⟩)) (hs : Sat w0 w (pts b o cells * F))
  (hu : P.underlying ty = some d) (hd : d.isRow = true) (hi : (P.info? ty).map (·.size) = some cells.length)
  (h : wpList P ops Q rest (a.put op.dst (.agg cells.toArray)) w) : wpList P ops Q (op :: rest) a w :=
 wpList_load_mid hgd ty x ho b o hx cells d hs.range hu hd hi h
theorem z17 {l : List Oper} {S : World → Prop} {i : Nat} {p : z58} (hi0 : l[i]? = some op) (hgd : op.guard = none) (ho : op.op = .store ty x y) (hx : a.eval x = .pointer (some ⟨b,o,none⟩)) (hy : a.eval y = .agg cells.toArray) (hs : Sat w0 w (pts b o old * F)) (hl : cells.length = old.length)
  (hi : (P.info? ty).map (·.size) = some cells.length) (h1 : cells.all (·.oneCell') = true) (h : ∀ w',Sat w0 w' (pts b o cells * F) → ∃ S' : World → Prop,(∀ w,S' w → S w) ∧ S' w' ∧ z08 P l.toArray Q S' p (a.put op.dst undef) w') : z08 P l.toArray Q S (.run i p) a w :=
 z9L hi0 hgd (z62 ho hx hy hs hl hi h1 h)
theorem z15 {l : List Oper} {S : World → Prop} {i : Nat} {p : z58} {R : HP} (zs : List Value) (t : TypeId) [hs : Sat w0 w R] (hi0 : l[i]? = some op) (hgd : op.guard = none)
  (hx : (execOp a.eval op).run P w = .ok (.value (.pointer (some ⟨w.heap.size,0,none⟩))) (w.alloc (.cells zs.toArray t)))
  (h : ∀ b w',Sat w0 w' (pts b 0 zs * R) → ∃ S' : World → Prop,(∀ w,S' w → S w) ∧ S' w' ∧ z08 P l.toArray Q S' p (a.put op.dst (.pointer (some ⟨b,0,none⟩))) w') : z08 P l.toArray Q S (.run i p) a w :=
 ziP hi0 hgd hx (h _ _ (hs.alloc zs.toArray t))
end
theorem z3p {P : Program} {w0 w : World} {F : HP} {fn : Func} {p b o : Nat} {ty : TypeId} {tmps : Array Value} {cells : List Value} {d : TypeDesc} (h : fn.results = #[.cell p ty]) (hp : tmps.getD p undef = .pointer (some ⟨b,o,none⟩)) (hs : Sat w0 w (pts b o cells * F))
  (hu : P.underlying ty = some d) (hd : d.isRow = true) (hi : (P.info? ty).map (·.size) = some cells.length) : (results fn tmps).run P w = .ok (.agg cells.toArray) w:=by
 have hp' : tmps[p]?.getD undef = .pointer (some ⟨b,o,none⟩):=by simpa using hp
 simp [results,h,hp',asAddr,run_loadVar_mid w b o ty cells d hs.range hu hd hi]
theorem zew {P : Program} {c1 c2 : Code} {Q : Exit → Act → World → Prop} {a : Act} {w : World} (h : ∀ K : Act → World → Prop,(∀ a w,c2.wp P Q a w → K a w) → c1.wp P (Exit.then K Q) a w) : (c1.seq c2).wp P Q a w:=wp_seq (h _ fun _ _ h=>h)
section
variable {P : Program} {l : List Oper} {Q : Exit → Act → World → Prop} {S : World → Prop} {j0 i n : Nat} {rest : List (Nat × Nat)} {a : Act} {w w' w0 : World} {o : Oper}
theorem z9o (ho : l[i]? = some o) (hg : o.guard = none) (h : o.wp P a w (fun a' w'=>S w' ∧ z0o P l.toArray Q S j0 rest a' w') Q) : z0o P l.toArray Q S j0 ((i,2) :: rest) a w:=by
 refine z0L fun K hK=>?_;rw [ho];show if Region.wanted o (yielded l.toArray a.tmps) = true then _ else _;rw [if_pos (show Region.wanted o (yielded l.toArray a.tmps) = true by simp [Region.wanted,hg])];exact Oper.wp_mono (fun a w h=>hK a w h) h
theorem zib (ho : l[i]? = some o) (hg : o.guard = none) (h : o.wp P a w (fun a' w'=>z0o P l.toArray Q S j0 rest a' w') Q) : z0o P l.toArray Q S j0 ((i,n + 3) :: rest) a w:=by
 refine z14 fun K hK=>?_;rw [ho];show if Region.wanted o (yielded l.toArray a.tmps) = true then _ else _;rw [if_pos (show Region.wanted o (yielded l.toArray a.tmps) = true by simp [Region.wanted,hg])];exact Oper.wp_mono (fun a w h=>hK a w h) h
theorem z13 {R : Ending → World → Prop} {f : FuncId} {vals : Array Value} (ho : l[i]? = some o) (hg : o.guard = none) (hx : (execOp a.eval o).run P w = .ok (.enter f vals) w) (hc : Calls P f vals w R)
  (hk : ∀ e w',R e w' → ∃ v,e = .returned v ∧ S w' ∧ z0o P l.toArray Q S j0 rest (a.put o.dst v) w') : z0o P l.toArray Q S j0 ((i,2) :: rest) a w:=by
 refine z9o ho hg ?_;unfold Oper.wp;rw [hx,Oper.upon_enter];refine hc.mono ?_;intro e w' hr;obtain ⟨v,rfl,h⟩:=hk e w' hr;exact h
theorem z24 {R : HP} [hs : Sat w0 w R] (vs : List Value) (t : TypeId) (m : Nat) (ho : l[i]? = some o) (hg : o.guard = none)
  (hx : (execOp a.eval o).run P w = .ok (.value (.slice (some ⟨w.heap.size,0,none⟩) m m)) (w.alloc (.cells vs.toArray t)))
  (hk : ∀ b w',Sat w0 w' (pts b 0 vs * R) → S w' ∧ z0o P l.toArray Q S j0 rest (a.put o.dst (.slice (some ⟨b,0,none⟩) m m)) w') : z0o P l.toArray Q S j0 ((i,2) :: rest) a w:=by
 refine z9o ho hg ?_;unfold Oper.wp;rw [hx];exact hk _ _ (hs.alloc vs.toArray t)
theorem z3d {α : Type} {sz : Nat} {E : Enc α sz} {t e bytes : Nat} {z : Value} {l1 l2 : List α} {s x : Operand} {sa : Option Addr} {sn sc m b : Nat} {F : HP}
  (ho : l[i]? = some o) (hg : o.guard = none) (hop : o.op = .call { callee:=.builtin .append,args:=#[s,x],argTypes:=#[t,t] }) [ET : z63 P t α sz E e bytes z]
  (hv : a.eval s = .slice sa sn sc) (hx : a.eval x = .slice (some ⟨b,0,none⟩) m m) (hs : Sat w0 w (z7 (.slice sa sn sc) l1 * (pts b 0 (cellsOf l2) * F))) (hm : m = l2.length) (h63 : sn + m ≤ 1000000000)
  (hk : ∀ a' cap' L w',Hid (L = l1 ++ l2) → Sat w0 w' (z7 (.slice a' L.length cap') L * (pts b 0 (cellsOf l2) * F)) → S w' ∧ z0o P l.toArray Q S j0 rest (a.put o.dst (.slice a' L.length cap')) w') : z0o P l.toArray Q S j0 ((i,2) :: rest) a w:=by
 subst hm;refine z9o ho hg ?_;have h2:=hs.perm (by ac_rfl : _ = pts b 0 (cellsOf l2) * (z7 (.slice sa sn sc) l1 * F));haveI : RdC w E (.slice (some ⟨b,0,none⟩) l2.length l2.length) l2:=⟨⟨_,l2.length,b,0,rfl,Nat.le_refl _,by unfold maxLen;omega,fun _=>rfl,fun j u hj=>h2.cell hj⟩⟩;haveI:=hs;refine z2J hop hv hx h63 ?_;intro a' cap' L w' hL _ _ hs' _;exact hk a' cap' L w' hL hs'
theorem zaN {t e bytes : Nat} {z : Value} {κ : IntKind} {l1 l2 : List Int} {s x : Operand} {sa : Option Addr} {sn sc m b : Nat} {F : HP}
  (ho : l[i]? = some o) (hg : o.guard = none) (hop : o.op = .call { callee:=.builtin .append,args:=#[s,x],argTypes:=#[t,t] }) [ET : zjz P t κ e bytes z]
  (hv : a.eval s = .slice sa sn sc) (hx : a.eval x = .slice (some ⟨b,0,none⟩) m m) (hs : Sat w0 w (z5 κ (.slice sa sn sc) l1 * (pts b 0 (l2.map (Value.int κ)) * F))) (hm : m = l2.length) (h63 : sn + m ≤ 1000000000)
  (hk : ∀ a' cap' L w',Hid (L = l1 ++ l2) → Sat w0 w' (z5 κ (.slice a' L.length cap') L * (pts b 0 (l2.map (Value.int κ)) * F)) → S w' ∧ z0o P l.toArray Q S j0 rest (a.put o.dst (.slice a' L.length cap')) w') : z0o P l.toArray Q S j0 ((i,2) :: rest) a w:=by
 subst hm;refine z9o ho hg ?_;have h2:=hs.perm (by ac_rfl : _ = pts b 0 (l2.map (Value.int κ)) * (z5 κ (.slice sa sn sc) l1 * F));haveI : Rd w κ (.slice (some ⟨b,0,none⟩) l2.length l2.length) l2:=⟨⟨_,l2.length,b,0,rfl,Nat.le_refl _,by unfold maxLen;omega,fun _=>rfl,fun j hj=>by
  have:=h2.cell (j:=j) (v:=.int κ (l2.getD j 0)) (by simp [List.getD,hj]);exact this⟩⟩
 haveI:=hs;refine z4k hop hv hx h63 ?_;intro a' cap' L w' hL _ _ hs' _;exact hk a' cap' L w' hL hs'
theorem z1I {ad : Addr} {v : Value} (ho : l[i]? = some o) (hg : o.guard = none) (hx : (execOp a.eval o).run P w = .ok .skip (w.setCell ad v))
  (hk : z0o P l.toArray Q S j0 rest (a.put o.dst undef) (w.setCell ad v)) : z0o P l.toArray Q S j0 ((i,n + 3) :: rest) a w:=by
 refine zib ho hg ?_;unfold Oper.wp;rw [hx];exact hk
theorem zcx {α : Type} {sz : Nat} [E : Enc α sz] {t e bytes : Nat} {z : Value} {l1 l2 : List α} {s x : Operand} {sa : Option Addr} {sn sc m b : Nat} {F : HP} {ops : Array Oper} {rst : List Oper}
  (hg : o.guard = none) (hop : o.op = .call { callee:=.builtin .append,args:=#[s,x],argTypes:=#[t,t] }) (ET : z1m P t e sz bytes z) (hbt : bytes ≤ 1000)
  (hv : a.eval s = .slice sa sn sc) (hx : a.eval x = .slice (some ⟨b,0,none⟩) m m) (hs : Sat w0 w (z7 (.slice sa sn sc) l1 * (pts b 0 (cellsOf l2) * F))) (hm : m = l2.length) (h63 : sn + m ≤ 1000000)
  (hk : ∀ a' cap' L w',Hid (L = l1 ++ l2) → Sat w0 w' (z7 (.slice a' L.length cap') L * (pts b 0 (cellsOf l2) * F)) → wpList P ops Q rst (a.put o.dst (.slice a' L.length cap')) w') : wpList P ops Q (o :: rst) a w:=by
 subst hm;have h2:=hs.perm (by ac_rfl : _ = pts b 0 (cellsOf l2) * (z7 (.slice sa sn sc) l1 * F));have hsl : sn = l1.length:=hs.rdR.caps.1;have hbb : (l1.length + l2.length) * bytes ≤ 140737488355328:=Nat.le_trans (Nat.mul_le_mul (show l1.length + l2.length ≤ 1000000 by omega) hbt) (by decide);refine z00 hg s x hop ET hv hs (some ⟨b,0,none⟩) l2.length l2.length (cellsOf l2) hx (zJ l2) (fun h=>by cases h) (fun ad hd j u hj=>?_) (z1f l2) (by unfold maxLen;omega) hbb ?_
 ·cases hd
  rw [Addr.add_lit];exact h2.cell hj
 ·intro v' w' hs' _;have hs2 : Sat w0 w' (z7 v' (l1 ++ l2) * (pts b 0 (cellsOf l2) * F)):=by
   unfold z7;rw [List.length_append,z0g];exact hs'
  obtain ⟨a',cap',rfl⟩:=hs2.slice_form;exact hk a' cap' _ w' rfl hs2
end
end Go.Sx
namespace Go.Proofs.YthcfimbidmogkaaGreatDoor
open Go.RowKit Go.Sx Go.Dl Go.Lk Go.Rq Go.Au
instance (priority:=1200) Sat.noughts (w0 w : World) (P : HP) (M n : Nat) (t : TypeId) [h : Sat w0 w P] [s : z89 w n] : Sat w0 (w.alloc (.cells (Array.replicate M (Value.int .u32 0)) t)) (pts n 0 ((List.replicate M (0 : Int)).map (Value.int .u32)) * P) :=
 s.eq ▸ (h.alloc (Array.replicate M (Value.int .u32 0)) t).perm (by rw [Array.toList_replicate,List.map_replicate])
theorem znv (n m : Nat) (w0 w : World) (F : HP) (hs : Sat w0 w F) (hn : n ≤ 16) (hm : m < 2 ^ n) :
  Calls Tryz.prog 41 #[.int .i64 n,.int .u32 m] w (zp w0 (.tuple #[.pointer (some ⟨w.heap.size,0,none⟩),.int .i64 0]) (lnP w.heap.size ⟨2 ^ n - 1,0,m,255⟩ * F)):=by
 have d1 : decide ((n : Int) < 0) = false:=by simp
 have d2 : decide ((16 : Int) < n) = false:=by simp;omega
 have d3 : decide (16 < n) = false:=by simp;omega
 have e4 : ((m : Int) / 2 ^ n != 0) = false:=by
  have : (m : Int) / 2 ^ n = 0:=Int.ediv_eq_zero_of_lt (Int.natCast_nonneg _) (by exact_mod_cast hm);simp [this]
 have e5 : ((2 : Int) ^ n - 1) % 4294967296 = ((2 ^ n - 1 : Nat) : Int):=by
  have h1 : 2 ^ n ≤ 2 ^ 16:=Nat.pow_le_pow_right (by decide) hn;have h2 : 1 ≤ 2 ^ n:=Nat.one_le_two_pow;have h3 : ((2 : Int) ^ n) = ((2 ^ n : Nat) : Int):=by push_cast;rfl
  rw [h3];omega
 go_enter Tryz.func41,Tryz.ntmps41
 go_wp2_with fail;go_ret2;exact ⟨rfl,hs.alloc #[.int .u32 ((2 ^ n - 1 : Nat) : Int),.int .u32 0,.int .u32 m,.int .i64 255] _⟩
def mrK (c : Cf) (hd : Nat → Hd) (k : Nat) : List Mv:=(List.range k).map fun t=>⟨(hd t).ad (z1w c t),z1w c t,(hd t).cap⟩
theorem zc3 (c : Cf) (hd : Nat → Hd) (k : Nat) : (mrK c hd k).length = k:=by simp [mrK]
theorem zi1 (c : Cf) (hd : Nat → Hd) (k : Nat) (h : Hd) : mrK c (upd hd k h) (k + 1) = mrK c hd k ++ [⟨h.ad (z1w c k),z1w c k,h.cap⟩]:=by
 unfold mrK;rw [List.range_succ,List.map_append]
 congr 1
 ·refine List.map_congr_left fun t ht=>?_;have:=List.mem_range.1 ht;rw [zL _ _ (by omega)]
 ·simp
def prK (sb : Nat → Nat) (k : Nat) : List Pv:=(List.range k).map fun t=>⟨sb t⟩
theorem z5z (sb : Nat → Nat) (k : Nat) : (prK sb k).length = k:=by simp [prK]
theorem zdg (sb : Nat → Nat) (k b : Nat) : prK (upd sb k b) (k + 1) = prK sb k ++ [⟨b⟩]:=by
 unfold prK;rw [List.range_succ,List.map_append]
 congr 1
 ·refine List.map_congr_left fun t ht=>?_;have:=List.mem_range.1 ht;rw [zL _ _ (by omega)]
 ·simp
theorem z9R {f : Nat → Nat → HP} {hd : Nat → Nat} {k : Nat} {h : Nat} : z0F (fun t=>f t (upd hd k h t)) (k + 1) = z0F (fun t=>f t (hd t)) k * f k h:=by
 rw [z0G,zK]
 congr 1
 exact zS fun t ht=>by rw [zL _ _ (by omega)]
theorem z46 {α : Type} (f : Nat → α) (d : α) {n t : Nat} (h : t < n) : ((List.range n).map f).getD t d = f t:=by
 simp [List.getD,h]
section
variable (x : Fx) (c : Cf)
theorem zkF : pts x.mm.b x.mm.o (cellsOf (mrK c x.mv c.ls.length)) * z0F (fun t=>pts (x.mv t).b (x.mv t).o ((List.replicate (z1w c t) (0 : Int)).map (Value.int .u32))) c.ls.length = zfR x c (z34 c).mems:=by
 rw [z5c,zc3,z36];refine zS fun t ht=>?_;have e : (mrK c x.mv c.ls.length).getD t (Enc.dft : Mv) = ⟨(x.mv t).ad (z1w c t),z1w c t,(x.mv t).cap⟩:=z46 _ _ ht;rw [e,Nat.mul_one];rfl
theorem zl4 : pts x.sa.b x.sa.o (cellsOf (prK x.sb c.sems.length)) * z0F (fun t=>z3f (x.sb t) (lg c.sems t) []) c.sems.length = ziv x c (z34 c).sm:=by
 rw [z5c,z5z,z36];refine zS fun t ht=>?_;have e : (prK x.sb c.sems.length).getD t (Enc.dft : Pv) = ⟨x.sb t⟩:=z46 _ _ ht;rw [e,Nat.mul_one];rfl
theorem zhV : pts x.qa.b x.qa.o (cellsOf (prK x.qb c.queues.length)) * z0F (fun t=>mqP (x.qb t) (zjm (lg c.queues t))) c.queues.length = zda x c (z34 c).ml:=by
 rw [z5c,z5z,z36];refine zS fun t ht=>?_;have e : (prK x.qb c.queues.length).getD t (Enc.dft : Pv) = ⟨x.qb t⟩:=z46 _ _ ht;rw [e,Nat.mul_one];rfl
theorem ziF : pts x.ta.b x.ta.o (cellsOf (trK c x.tv c.ts.length)) * z0F (fun t=>pts (x.tv t).b (x.tv t).o ((List.replicate (z1x c t) (0 : Int)).map (Value.int .u32))) c.ts.length = zbd x c (fun t=>((z34 c).T t,(z34 c).tm t)):=by
 rw [z5c,zcr,z36];refine zS fun t ht=>?_;have e : (trK c x.tv c.ts.length).getD t (Enc.dft : Tr) = ⟨zaJ c t,(x.tv t).ad (z1x c t),z1x c t,(x.tv t).cap⟩:=z46 _ _ ht;rw [e];show pts x.ta.b (x.ta.o + t * 15) (tsL (zaJ c t) ++ cxL (zaJ c t).at_ (zaJ c t).rg _) * _ = _;rw [zd,zb]
 rfl
end
theorem Sat.snoc {α : Type} {sz : Nat} [E : Enc α sz] {w0 w : World} {F : HP} {v : Value} {l : List α} {x : α} (hs : Sat w0 w (zX sz v (l.length + 1) (cellsOf l ++ E.enc x) * F)) : Sat w0 w (z7 v (l ++ [x]) * F) :=
 hs.perm (by unfold z7;rw [List.length_append,z0g,zy,z1e,List.append_nil];rfl)
instance (b : Nat) : zgX zjW [.pointer (some ⟨b,0,none⟩)] [⟨b⟩]:=⟨rfl⟩
theorem zhS (u : Int) (w0 w : World) (F : HP) (hs : Sat w0 w F) (h : 1 ≤ u ∧ u ≤ 64) :
  Calls Tryz.prog 40 #[.int .i64 u] w (zp w0 (.tuple #[.pointer (some ⟨w.heap.size,0,none⟩),.int .i64 0]) (mqP w.heap.size (zjm u) * F)) :=
 zc1 u.toNat u (by omega) w0 w F hs h
theorem zmk (v : Value) (l : List Int) (m : Int) (w0 w : World) (F : HP) (hs : Sat w0 w (z5 .i64 v l * F)) (hl : l.length ≤ 64) (hM : 0 ≤ m ∧ m ≤ 32) (hv : ziX l) :
  Calls Tryz.prog 38 #[v,.int .i64 m] w (Ret w0 fun v'=>ex fun b : Nat=>pur (v' = .tuple #[.pointer (some ⟨b,0,none⟩),.int .i64 0]) * (lkP b (z5x l m.toNat) * (z5 .i64 v l * F))):=by
 obtain ⟨M,rfl⟩:=Int.eq_ofNat_of_zero_le hM.1;refine (ze3 v l M w0 w F hs hl (by omega)).mono ?_;rintro en w' ⟨hy, -⟩;obtain ⟨b,rfl,h⟩:=hy hv;exact ⟨_,rfl,Sat.perm (Sat.ex_in (F:=emp) b (Sat.perm (Sat.pur_in rfl h) (zz _).symm)) (zz _)⟩
theorem zno {w0 w : World} (kb nb lb : Nat) (x : Cx0) (c : Cf) (hT hM : Nat → Hd) (sb qb : Nat → Nat) (ml ta1 sl ql : Option Addr) (mc0 tc1 sc0 qc0 : Nat)
  (hs : Sat w0 w (pts kb 541 [.slice ml (mrK c hM c.ls.length).length mc0,.slice ta1 (trK c hT c.ts.length).length tc1,.pointer (some ⟨lb,0,none⟩),.slice sl (prK sb c.sems.length).length sc0,.slice ql (prK qb c.queues.length).length qc0,.pointer (some ⟨nb,0,none⟩),.int .u64 0,.bool false] * (z7 (.slice ml (mrK c hM c.ls.length).length mc0) (mrK c hM c.ls.length) * (z7 (.slice ta1 (trK c hT c.ts.length).length tc1) (trK c hT c.ts.length) * (z7 (.slice sl (prK sb c.sems.length).length sc0) (prK sb c.sems.length) * (z7 (.slice ql (prK qb c.queues.length).length qc0) (prK qb c.queues.length) * (z0F (fun t=>pts (hM t).b (hM t).o ((List.replicate (z1w c t) (0 : Int)).map (Value.int .u32))) c.ls.length * (z0F (fun t=>pts (hT t).b (hT t).o ((List.replicate (z1x c t) (0 : Int)).map (Value.int .u32))) c.ts.length * (z0F (fun t=>z3f (sb t) (lg c.sems t) []) c.sems.length * (z0F (fun t=>mqP (qb t) (zjm (lg c.queues t))) c.queues.length * (lkP lb (z5x (lvK c c.ts.length) c.mutexes.toNat) * (lnP nb ⟨2 ^ c.ls.length - 1,0,c.mask,255⟩ * (z21 kb 2 (z0p c c.ts.length) * (pts kb 0 [.int .u64 c.count,.int .u64 c.cycle] * (pts kb 259 [.int .i64 c.table] * (rdP kb 260 (fun _=>[]) * (pts kb 518 (cfL x c) * (pts kb 530 [.int .i64 255] * (pts kb 531 (cxL 0 r80 (.slice none 0 0)) * (pts kb 549 [.slice none 0 0] * (cfH x c))))))))))))))))))))) : Sat w0 w (ex fun y : Fx=>knP kb y c (z34 c)):=by
 obtain ⟨hm,em, -,hs⟩:=z2T (hs.pull (Q:=z7 (.slice ml (mrK c hM c.ls.length).length mc0) (mrK c hM c.ls.length)));obtain ⟨ht,et, -,hs⟩:=z2T (hs.pull (Q:=z7 (.slice ta1 (trK c hT c.ts.length).length tc1) (trK c hT c.ts.length)));obtain ⟨hS,eS, -,hs⟩:=z2T (hs.pull (Q:=z7 (.slice sl (prK sb c.sems.length).length sc0) (prK sb c.sems.length)));obtain ⟨hQ,eQ, -,hs⟩:=z2T (hs.pull (Q:=z7 (.slice ql (prK qb c.queues.length).length qc0) (prK qb c.queues.length)));rw [em,et,eS,eQ,zc3,zcr,z5z,z5z] at hs;obtain ⟨y,hy⟩ : ∃ y : Fx,y = ⟨x,hm,hM,ht,hT,lb,hS,sb,hQ,qb,nb⟩:=⟨_,rfl⟩;have e1:=zkF y c;have e2:=ziF y c;have e3:=zl4 y c;have e4:=zhV y c;have h1:=Sat.ex_in (f:=fun v : Sh=>pts kb 531 (cxL 0 r80 v.v)) ⟨none,0,0⟩ (hs.pull (Q:=pts kb 531 (cxL 0 r80 (.slice none 0 0))));have h2:=z6A (v:=.slice none 0 0) (l:=[]) ((h1.pull (Q:=pts kb 549 [.slice none 0 0])).perm (by show _ = _ * (z7 (α:=Ev) (.slice none 0 0) [] * _);rw [z03,zm]));refine Sat.perm (Sat.ex_in (F:=emp) y ?_) (zz _);refine h2.perm ?_;rw [zz];unfold knP;dsimp only [z34] at e1 e2 e3 e4 ⊢;rw [show zgU c = lvK c c.ts.length from rfl];rw [← e1,← e2,← e3,← e4,hy];dsimp only [kcL]
 ac_rfl
theorem zhA (v : Value) (c : Cf) (rg : z6B c) (sm : z5a c) (w0 : World) (hr : z8I w0 v c) (hok : (z5g c).err = 0) :
  Calls Tryz.prog 13 #[v] w0 (Ret w0 fun v'=>ex fun b : Nat=>ex fun y : Fx=>pur (v' = .tuple #[.pointer (some ⟨b,0,none⟩),ftV ft0]) * knP b y c (z34 c)):=by
 have hs:=Sat.start w0;have ok:=z4E rg hok;have hnt:=ok.nt;have hnl:=ok.nl;have hns:=ok.ns;have hnq:=ok.nq;have hTm:=hid (fun t ht=>(ok.t t ht).2.2.2.2.1);have hLm:=hid (fun t ht=>(ok.l t ht).1);have OK:=hid ok;clear ok;have hA:=hid (fun (w : World) (h : Sat w0 w any)=>z9W v c rg w (hr.later h));have hB:=hid (fun (w : World) (h : Sat w0 w any)=>zcG v c sm w (hr.later h));obtain ⟨ta,la,sa,qa,ma,tc,lc,sc,qc,mc,rfl,h1,h2,h3,h4,h5⟩:=hr.form;clear hr h1 h2 h3 h4 h5
 go_enter Tryz.func13,Tryz.ntmps13
 go_wp2_with fail;refine (hA.out _ z3).mono ?_;rintro en w1 ⟨rfl,hs1⟩;have hs2:=Sat.past (w0:=w0) z6 hs1;clear hs1 hs;unfold ftV;go_wp2_with fail;refine (hB.out _ z3).mono ?_;rintro en w3 ⟨v3,rfl,hs3⟩;obtain ⟨x,hs4⟩:=(hs3.perm (zz _).symm).ex_out;obtain ⟨⟨e3,hcap⟩,hs5⟩:=(hs4.perm (zb _ _ _)).pur_out;clear hs3 hs4;have hs6:=Sat.over (w0:=w0) z6 hs5;clear hs5 hs2;have e4 : v3 = .agg #[.slice (x.ct.ad c.ts.length) c.ts.length x.ct.cap,.slice (x.cl.ad c.ls.length) c.ls.length x.cl.cap,.int .i64 c.mutexes,.slice (x.cs.ad c.sems.length) c.sems.length x.cs.cap,.slice (x.cq.ad c.queues.length) c.queues.length x.cq.cap,.slice (x.cm.ad c.timers.length) c.timers.length x.cm.cap,.int .i64 c.table,.int .u32 c.mask,.int .u32 c.filter,.int .i64 c.charge,.int .u64 c.cycle,.int .u64 c.count]:=e3;clear e3;obtain ⟨at0,hA0⟩ : ∃ a,x.ct.ad c.ts.length = a:=⟨_,rfl⟩;obtain ⟨al0,hL0⟩ : ∃ a,x.cl.ad c.ls.length = a:=⟨_,rfl⟩;obtain ⟨as0,hS0⟩ : ∃ a,x.cs.ad c.sems.length = a:=⟨_,rfl⟩;obtain ⟨aq0,hQ0⟩ : ∃ a,x.cq.ad c.queues.length = a:=⟨_,rfl⟩;rw [hA0,hL0,hS0,hQ0] at e4;have HA0:=hid hA0;have HL0:=hid hL0;have HS0:=hid hS0;have HQ0:=hid hQ0;have HC:=hid hcap;clear hA0 hL0 hS0 hQ0 hcap;subst e4;have hs7 : Sat w0 w3 (pts w0.heap.size 0 [.slice ta c.ts.length tc,.slice la c.ls.length lc,.int .i64 c.mutexes,.slice sa c.sems.length sc,.slice qa c.queues.length qc,.slice ma c.timers.length mc,.int .i64 c.table,.int .u32 c.mask,.int .u32 c.filter,.int .i64 c.charge,.int .u64 c.cycle,.int .u64 c.count] * (pts (w0.heap.size + 1) 0 [.int .i64 0,.int .i64 0,.int .i64 0,.int .i64 0] * cfH x c)):=z3;clear hs6
 go_simp
 iterate 9 (first | go_values | go_skip | go_guarded | go_step | go_upon | go_back | go_simp)
 refine zev (w0:=w0) ?_;intro w4 hs8;clear hs7
 iterate 30 (first | go_values | go_skip | go_guarded | go_step | go_upon | go_back | go_simp)
 refine z9 (w0:=w0) ?_;intro w5 hs9;clear hs8;generalize w4.heap.size = kb at *;generalize Value.agg (Array.setIfInBounds _ 1 _) = vK;go_wp2_with fail;refine z9 (w0:=w0) ?_;intro w6 hsw;clear hs9
 go_loopw [6,44] (fun lvv i wr=>∃ k : Nat, ∃ lva : Option Addr, ∃ lvc : Nat, ∃ ta1 : Option Addr, ∃ tc1 : Nat, ∃ hT : Nat → Hd, ∃ lv : List Int, ∃ tr : List Tr,k ≤ c.ts.length ∧ lvv = .slice lva lv.length lvc ∧ i = .int .i64 k ∧ (lv = lvK c k ∧ tr = trK c hT k ∧ ∀ t,t < k → z1x c t ≤ (hT t).cap ∧ (hT t).cap ≤ maxLen) ∧ Sat w0 wr (pts kb 541 [.slice none 0 0,.slice ta1 tr.length tc1,.pointer none,.slice none 0 0,.slice none 0 0,.pointer none,.int .u64 0,.bool false] * (z21 kb 2 (z0p c k) * (z5 .i64 (.slice lva lv.length lvc) lv * (z7 (.slice ta1 tr.length tc1) tr * (z0F (fun t=>pts (hT t).b (hT t).o ((List.replicate (z1x c t) (0 : Int)).map (Value.int .u32))) k * (pts kb 0 [.int .u64 c.count,.int .u64 c.cycle] * (pts kb 259 [.int .i64 c.table] * (rdP kb 260 (fun _=>[]) * (pts kb 518 [.slice at0 c.ts.length x.ct.cap,.slice al0 c.ls.length x.cl.cap,.int .i64 c.mutexes,.slice as0 c.sems.length x.cs.cap,.slice aq0 c.queues.length x.cq.cap,.slice (x.cm.ad c.timers.length) c.timers.length x.cm.cap,.int .i64 c.table,.int .u32 c.mask,.int .u32 c.filter,.int .i64 c.charge,.int .u64 c.cycle,.int .u64 c.count] * (pts kb 530 [.int .i64 255] * (pts kb 531 (cxL 0 r80 (.slice none 0 0)) * (pts kb 549 [.slice none 0 0] * (pts w0.heap.size 0 [.slice at0 c.ts.length x.ct.cap,.slice al0 c.ls.length x.cl.cap,.int .i64 c.mutexes,.slice as0 c.sems.length x.cs.cap,.slice aq0 c.queues.length x.cq.cap,.slice (x.cm.ad c.timers.length) c.timers.length x.cm.cap,.int .i64 c.table,.int .u32 c.mask,.int .u32 c.filter,.int .i64 c.charge,.int .u64 c.cycle,.int .u64 c.count] * (pts (w0.heap.size + 1) 0 [.int .i64 0,.int .i64 0,.int .i64 0,.int .i64 0] * (cfH x c * (any))))))))))))))))) (fun _ i _=>c.ts.length - (intOf i).toNat)
 case atStart =>
  refine ⟨0,none,0,none,0,fun _=>⟨none,0,0,0⟩,[],[],Nat.zero_le _,rfl,rfl,⟨rfl,rfl,fun t ht=>absurd ht (by omega)⟩,?_⟩;refine mpS (P:=pts kb 541 [.slice none 0 0,.slice none 0 0,.pointer none,.slice none 0 0,.slice none 0 0,.pointer none,.int .u64 0,.bool false] * (z21 kb 2 [] * (pts kb 0 [.int .u64 c.count,.int .u64 c.cycle] * (pts kb 259 [.int .i64 c.table] * (rdP kb 260 (fun _=>[]) * (pts kb 518 [.slice at0 c.ts.length x.ct.cap,.slice al0 c.ls.length x.cl.cap,.int .i64 c.mutexes,.slice as0 c.sems.length x.cs.cap,.slice aq0 c.queues.length x.cq.cap,.slice (x.cm.ad c.timers.length) c.timers.length x.cm.cap,.int .i64 c.table,.int .u32 c.mask,.int .u32 c.filter,.int .i64 c.charge,.int .u64 c.cycle,.int .u64 c.count] * (pts kb 530 [.int .i64 255] * (pts kb 531 (cxL 0 r80 (.slice none 0 0)) * (pts kb 549 [.slice none 0 0] * (pts w0.heap.size 0 [.slice at0 c.ts.length x.ct.cap,.slice al0 c.ls.length x.cl.cap,.int .i64 c.mutexes,.slice as0 c.sems.length x.cs.cap,.slice aq0 c.queues.length x.cq.cap,.slice (x.cm.ad c.timers.length) c.timers.length x.cm.cap,.int .i64 c.table,.int .u32 c.mask,.int .u32 c.filter,.int .i64 c.charge,.int .u64 c.cycle,.int .u64 c.count] * (pts (w0.heap.size + 1) 0 [.int .i64 0,.int .i64 0,.int .i64 0,.int .i64 0] * (cfH x c * (any))))))))))))) z3 (fun hz=>hz.perm (by show _ = _ * (_ * (z5 .i64 (.slice none 0 0) [] * (z7 (α:=Tr) (.slice none 0 0) [] * (emp * _))));rw [z1r,z03,zm,zm,zm];rfl))
 case round =>
  obtain ⟨k,lva,lvc,ta1,tc1,hT,lv,tr,hk,rfl,rfl,hI,hsr⟩:=hrel;clear hsw;have Hl1 : lv.length = k:=by rw [hI.1];exact zkD c k
  have Hl2 : tr.length = k:=by rw [hI.2.1];exact zcr c hT k
  have hl1 : lv.length ≤ 64:=by omega
  have hl2 : tr.length ≤ 64:=by omega
  have HI:=hid hI;clear hI Hl1 Hl2
  by_cases hlt : k < c.ts.length
  ·have d3 : decide (k < c.ts.length) = true:=decide_eq_true hlt;have i3 : (k : Int) < (c.ts.length : Int):=by omega
   obtain rfl : at0 = some ⟨x.ct.b,x.ct.o,none⟩:=HA0.out.symm.trans (x.ct.ad_pos (by omega));haveI : Lt k c.ts.length:=⟨hlt⟩;have hmem : (tcg c k).mem = ((z1x c k : Nat) : Int):=by have:=hTm.out k hlt;unfold z1x;omega
   have hm256 : z1x c k ≤ 256:=by have:=hTm.out k hlt;unfold z1x;omega
   have hmk:=hid (zfQ (z1x c k) hm256);go_wp2_with (first | (at_builtin;refine z06 rfl rfl rfl rfl (by omega) ?_;intro ap ac aL aw ahL ah1 ah2 ahs _) | (refine z0l rfl rfl rfl rfl (by omega) (by omega) ?_;intro px pc pL php phL ph1 ph2) | (refine z0B rfl rfl rfl rfl (by omega) (by omega) ?_;intro px pc pL php phL ph1 ph2));refine z9 (w0:=w0) ?_;intro wy hsy;clear hsr;generalize wr.heap.size = tb at *;refine zv (fun w'=>w'.cell? ⟨kb,542,none⟩ = some (.slice ta1 tr.length tc1) ∧ w'.cell? ⟨tb,0,none⟩ = some (.int .i64 (tcg c k).lev) ∧ w'.cell? ⟨tb,4,none⟩ = some (.int .i64 (z1x c k))) 16 [(0,0),(1,0),(2,0),(3,0),(4,1),(5,0),(6,1),(7,0),(8,1),(9,2),(10,0),(11,0),(12,2),(13,2),(14,0),(15,0),(16,3)] (by kernel_rfl) (by kernel_rfl) (fun _ _ _ _ h=>h) ⟨z4,z4,z4⟩ ?_
   iterate 9 ((first | refine zn fun K hK=>?_ | refine zo fun K hK=>?_);simp only [zqS,zqZ]; (first | (rw [if_pos (by rfl)];apply Exists.intro;refine ⟨fun w hSw=>?_,hK _ ?_⟩; (focus ((try dsimp only at hSw);go_simp;try with_reducible rfl))) | (rw [if_neg (ne_true_of_eq_false (by rfl))];refine hK _ ?_));clear hK K;simp only [Act.put,zqA,zqP,zqQ])
   have hmk:=hmk.out;refine z0L (fun K hK=>?_);simp only [zqS,zqZ];rw [if_pos (by rfl)];go_wp2_with fail;refine ⟨⟨z4,z4,z4⟩,?_⟩;refine z4Q (w0:=w0) ?_;intro wz hsz;clear hsy;generalize wy.heap.size = mb at *
   iterate 2 ((first | refine zn fun K hK=>?_ | refine zo fun K hK=>?_);simp only [zqS,zqZ]; (first | (rw [if_pos (by rfl)];apply Exists.intro;refine ⟨fun w hSw=>?_,hK _ ?_⟩; (focus ((try dsimp only at hSw);go_simp;try with_reducible rfl))) | (rw [if_neg (ne_true_of_eq_false (by rfl))];refine hK _ ?_));clear hK K;simp only [Act.put,zqA,zqP,zqQ])
   refine z0L (fun K hK=>?_);simp only [zqS,zqZ];rw [if_pos (by rfl)];go_wp2_with fail;refine ⟨⟨z4,z4,z4⟩,?_⟩;refine z4Q (w0:=w0) ?_;intro w10 hs10;clear hsz;generalize wz.heap.size = nb at *;refine z0L (fun K hK=>?_);simp only [zqS,zqZ];rw [if_pos (by rfl)];refine z0E (.tmp 58) (.tmp 66) rfl zj7 rfl (own : Sat w0 w10 (z7 (.slice ta1 tr.length tc1) tr * _)) (some ⟨nb,0,none⟩) 1 1 (zjX.enc ⟨zaJ c k,some ⟨mb,0,none⟩,z1x c k,z1x c k⟩) rfl rfl (by simp) (fun a ha j u hj=>?_) (zjX.one _) (by unfold maxLen;omega) (by omega) ?_
   ·obtain rfl:=Option.some.inj ha;have:=hs10.cell hj;rw [Nat.zero_add] at this;rw [← this];cases j <;> simp [Addr.add]
   intro v11 w11 hs11 _;have hs12:=Sat.snoc hs11;clear hs10 hs11;obtain ⟨tr2,htr2⟩ : ∃ l,l = tr ++ [⟨zaJ c k,some ⟨mb,0,none⟩,z1x c k,z1x c k⟩]:=⟨_,rfl⟩;have hl3 : tr2.length ≤ 65:=by rw [htr2,List.length_append];simp;omega
   rw [← htr2] at hs12;obtain ⟨ta2,tc2,rfl⟩:=hs12.recs_form;have Htr2:=hid htr2;clear htr2;refine hK _ _ ⟨⟨z4,z4,z4⟩,?_⟩;clear hK K;simp only [Act.put,zqA,zqP,zqQ]
   iterate 2 ((first | refine zn fun K hK=>?_ | refine zo fun K hK=>?_);simp only [zqS,zqZ]; (first | (rw [if_pos (by rfl)];apply Exists.intro;refine ⟨fun w hSw=>?_,hK _ ?_⟩; (focus ((try dsimp only at hSw);go_simp;try with_reducible rfl))) | (rw [if_neg (ne_true_of_eq_false (by rfl))];refine hK _ ?_));clear hK K;simp only [Act.put,zqA,zqP,zqQ])
   refine z14 (fun K hK=>?_);simp only [zqS,zqZ];rw [if_pos (by rfl)];go_wp2_with fail;refine z0a ?_;go_wp2_with fail;refine z9 (w0:=w0) ?_;intro wx hsx;go_still_tail 7,(by kernel_rfl);change wpList _ _ _ _ _ wx.drew;go_wp2_with fail;refine (zj5 kb 2 (z0p c k) _ _ w0 _ _ own (z5e c k)).mono ?_;rintro en w14 ⟨rfl,hs14⟩;clear hs12 hsx;go_wp2_with fail;go_roundw
   case rel =>
    have hI:=HI.out;have e2 : (⟨some ⟨mb,0,none⟩,mb,0,z1x c k⟩ : Hd).ad (z1x c k) = some ⟨mb,0,none⟩:=by unfold Hd.ad;split <;> rfl
    refine ⟨k + 1,ap,ac,ta2,tc2,upd hT k ⟨some ⟨mb,0,none⟩,mb,0,z1x c k⟩,aL,tr2,by omega,rfl,by go_num,⟨?_,?_,fun t ht=>?_⟩,?_⟩
    ·rw [ahL,hI.1,zhM]
    ·rw [Htr2.out,hI.2.1,ziO,e2]
    ·by_cases e : t = k
     ·rw [e,zK];exact ⟨Nat.le_refl _,by unfold maxLen;show z1x c k ≤ _;omega⟩
     ·rw [zL _ _ e];exact hI.2.2 t (by omega)
    ·rw [z6h (f:=fun t h=>pts h.b h.o ((List.replicate (z1x c t) (0 : Int)).map (Value.int .u32))),z9V];exact Sat.perm (show Sat w0 _ (pts kb 541 [.slice none 0 0,.slice ta2 tr2.length tc2,.pointer none,.slice none 0 0,.slice none 0 0,.pointer none,.int .u64 0,.bool false] * (z21 kb 2 (z5B (z0p c k) (k : Int) (tcg c k).off) * (z5 .i64 (.slice ap aL.length ac) aL * (z7 (.slice ta2 tr2.length tc2) tr2 * (z0F (fun t=>pts (hT t).b (hT t).o ((List.replicate (z1x c t) (0 : Int)).map (Value.int .u32))) k * (pts mb 0 ((List.replicate (z1x c k) (0 : Int)).map (Value.int .u32)) * (pts kb 0 [.int .u64 c.count,.int .u64 c.cycle] * (pts kb 259 [.int .i64 c.table] * (rdP kb 260 (fun _=>[]) * (pts kb 518 [.slice (some ⟨x.ct.b,x.ct.o,none⟩) c.ts.length x.ct.cap,.slice al0 c.ls.length x.cl.cap,.int .i64 c.mutexes,.slice as0 c.sems.length x.cs.cap,.slice aq0 c.queues.length x.cq.cap,.slice (x.cm.ad c.timers.length) c.timers.length x.cm.cap,.int .i64 c.table,.int .u32 c.mask,.int .u32 c.filter,.int .i64 c.charge,.int .u64 c.cycle,.int .u64 c.count] * (pts kb 530 [.int .i64 255] * (pts kb 531 (cxL 0 r80 (.slice none 0 0)) * (pts kb 549 [.slice none 0 0] * (pts w0.heap.size 0 [.slice (some ⟨x.ct.b,x.ct.o,none⟩) c.ts.length x.ct.cap,.slice al0 c.ls.length x.cl.cap,.int .i64 c.mutexes,.slice as0 c.sems.length x.cs.cap,.slice aq0 c.queues.length x.cq.cap,.slice (x.cm.ad c.timers.length) c.timers.length x.cm.cap,.int .i64 c.table,.int .u32 c.mask,.int .u32 c.filter,.int .i64 c.charge,.int .u64 c.cycle,.int .u64 c.count] * (pts (w0.heap.size + 1) 0 [.int .i64 0,.int .i64 0,.int .i64 0,.int .i64 0] * (cfH x c * (any))))))))))))))))) from z3) (by ac_rfl)
   case measure=>simp [intOf];omega
  ·have hkn : k = c.ts.length:=by omega
   subst hkn;have d3 : decide (c.ts.length < c.ts.length) = false:=by simp
   clear hlt hk;go_wp2_with fail;refine z9 (w0:=w0) ?_;intro w16 hs16;clear hsr
   go_loopw [82] (fun i wr=>∃ k : Nat, ∃ ml : Option Addr, ∃ mc0 : Nat, ∃ hM : Nat → Hd, ∃ mr : List Mv,k ≤ c.ls.length ∧ i = .int .i64 k ∧ (mr = mrK c hM k ∧ ∀ t,t < k → z1w c t ≤ (hM t).cap ∧ (hM t).cap ≤ maxLen) ∧ Sat w0 wr (pts kb 541 [.slice ml mr.length mc0,.slice ta1 tr.length tc1,.pointer none,.slice none 0 0,.slice none 0 0,.pointer none,.int .u64 0,.bool false] * (z7 (.slice ml mr.length mc0) mr * (z0F (fun t=>pts (hM t).b (hM t).o ((List.replicate (z1w c t) (0 : Int)).map (Value.int .u32))) k * (z21 kb 2 (z0p c c.ts.length) * (z5 .i64 (.slice lva lv.length lvc) lv * (z7 (.slice ta1 tr.length tc1) tr * (z0F (fun t=>pts (hT t).b (hT t).o ((List.replicate (z1x c t) (0 : Int)).map (Value.int .u32))) c.ts.length * (pts kb 0 [.int .u64 c.count,.int .u64 c.cycle] * (pts kb 259 [.int .i64 c.table] * (rdP kb 260 (fun _=>[]) * (pts kb 518 [.slice at0 c.ts.length x.ct.cap,.slice al0 c.ls.length x.cl.cap,.int .i64 c.mutexes,.slice as0 c.sems.length x.cs.cap,.slice aq0 c.queues.length x.cq.cap,.slice (x.cm.ad c.timers.length) c.timers.length x.cm.cap,.int .i64 c.table,.int .u32 c.mask,.int .u32 c.filter,.int .i64 c.charge,.int .u64 c.cycle,.int .u64 c.count] * (pts kb 530 [.int .i64 255] * (pts kb 531 (cxL 0 r80 (.slice none 0 0)) * (pts kb 549 [.slice none 0 0] * (pts w0.heap.size 0 [.slice at0 c.ts.length x.ct.cap,.slice al0 c.ls.length x.cl.cap,.int .i64 c.mutexes,.slice as0 c.sems.length x.cs.cap,.slice aq0 c.queues.length x.cq.cap,.slice (x.cm.ad c.timers.length) c.timers.length x.cm.cap,.int .i64 c.table,.int .u32 c.mask,.int .u32 c.filter,.int .i64 c.charge,.int .u64 c.cycle,.int .u64 c.count] * (pts (w0.heap.size + 1) 0 [.int .i64 0,.int .i64 0,.int .i64 0,.int .i64 0] * (cfH x c * (any))))))))))))))))))) (fun i _=>c.ls.length - (intOf i).toNat)
   case atStart =>
    refine ⟨0,none,0,fun _=>⟨none,0,0,0⟩,[],Nat.zero_le _,rfl,⟨rfl,fun t ht=>absurd ht (by omega)⟩,?_⟩;refine mpS (P:=pts kb 541 [.slice none 0 0,.slice ta1 tr.length tc1,.pointer none,.slice none 0 0,.slice none 0 0,.pointer none,.int .u64 0,.bool false] * (z21 kb 2 (z0p c c.ts.length) * (z5 .i64 (.slice lva lv.length lvc) lv * (z7 (.slice ta1 tr.length tc1) tr * (z0F (fun t=>pts (hT t).b (hT t).o ((List.replicate (z1x c t) (0 : Int)).map (Value.int .u32))) c.ts.length * (pts kb 0 [.int .u64 c.count,.int .u64 c.cycle] * (pts kb 259 [.int .i64 c.table] * (rdP kb 260 (fun _=>[]) * (pts kb 518 [.slice at0 c.ts.length x.ct.cap,.slice al0 c.ls.length x.cl.cap,.int .i64 c.mutexes,.slice as0 c.sems.length x.cs.cap,.slice aq0 c.queues.length x.cq.cap,.slice (x.cm.ad c.timers.length) c.timers.length x.cm.cap,.int .i64 c.table,.int .u32 c.mask,.int .u32 c.filter,.int .i64 c.charge,.int .u64 c.cycle,.int .u64 c.count] * (pts kb 530 [.int .i64 255] * (pts kb 531 (cxL 0 r80 (.slice none 0 0)) * (pts kb 549 [.slice none 0 0] * (pts w0.heap.size 0 [.slice at0 c.ts.length x.ct.cap,.slice al0 c.ls.length x.cl.cap,.int .i64 c.mutexes,.slice as0 c.sems.length x.cs.cap,.slice aq0 c.queues.length x.cq.cap,.slice (x.cm.ad c.timers.length) c.timers.length x.cm.cap,.int .i64 c.table,.int .u32 c.mask,.int .u32 c.filter,.int .i64 c.charge,.int .u64 c.cycle,.int .u64 c.count] * (pts (w0.heap.size + 1) 0 [.int .i64 0,.int .i64 0,.int .i64 0,.int .i64 0] * (cfH x c * (any)))))))))))))))) z3 (fun hz=>hz.perm (by show _ = _ * (z7 (α:=Mv) (.slice none 0 0) [] * (emp * _));rw [z03,zm,zm];rfl))
   case round =>
    obtain ⟨k,ml,mc0,hM,mr,hk,rfl,hJ,hsr⟩:=hrel;clear hs16;have hl4 : mr.length ≤ 16:=by rw [hJ.1,zc3];omega
    have HJ:=hid hJ;clear hJ
    by_cases hlt : k < c.ls.length
    ·have d4 : decide (k < c.ls.length) = true:=decide_eq_true hlt;have i4 : (k : Int) < (c.ls.length : Int):=by omega
     obtain rfl : al0 = some ⟨x.cl.b,x.cl.o,none⟩:=HL0.out.symm.trans (x.cl.ad_pos (by omega));haveI : Lt k c.ls.length:=⟨hlt⟩;have hmem : (lcg c k).mem = ((z1w c k : Nat) : Int):=by have:=hLm.out k hlt;unfold z1w;omega
     have hm256 : z1w c k ≤ 256:=by have:=hLm.out k hlt;unfold z1w;omega
     have hmk:=hid (zfQ (z1w c k) hm256);go_wp2_with fail;refine z9 (w0:=w0) ?_;intro wy hsy;clear hsr;generalize wr.heap.size = tb at *;refine zv (fun w'=>w'.cell? ⟨kb,541,none⟩ = some (.slice ml mr.length mc0) ∧ w'.cell? ⟨tb,0,none⟩ = some (.int .i64 (z1w c k))) 12 [(0,0),(1,0),(2,0),(3,0),(4,1),(5,0),(6,1),(7,2),(8,2),(9,2),(10,0),(11,0),(12,3)] (by kernel_rfl) (by kernel_rfl) (fun _ _ _ _ h=>h) ⟨z4,z4⟩ ?_
     iterate 7 ((first | refine zn fun K hK=>?_ | refine zo fun K hK=>?_);simp only [zqS,zqZ]; (first | (rw [if_pos (by rfl)];apply Exists.intro;refine ⟨fun w hSw=>?_,hK _ ?_⟩; (focus ((try dsimp only at hSw);go_simp;try with_reducible rfl))) | (rw [if_neg (ne_true_of_eq_false (by rfl))];refine hK _ ?_));clear hK K;simp only [Act.put,zqA,zqP,zqQ])
     have hmk:=hmk.out;refine z0L (fun K hK=>?_);simp only [zqS,zqZ];rw [if_pos (by rfl)];go_wp2_with fail;refine ⟨⟨z4,z4⟩,?_⟩;refine z4Q (w0:=w0) ?_;intro wz hsz;clear hsy;generalize wy.heap.size = mb at *;refine z0L (fun K hK=>?_);simp only [zqS,zqZ];rw [if_pos (by rfl)];go_wp2_with fail;refine ⟨⟨z4,z4⟩,?_⟩;refine z4Q (w0:=w0) ?_;intro w10 hs10;clear hsz;generalize wz.heap.size = nb at *;refine z0L (fun K hK=>?_);simp only [zqS,zqZ];rw [if_pos (by rfl)];refine z0E (.tmp 90) (.tmp 94) rfl zj6 rfl (own : Sat w0 w10 (z7 (.slice ml mr.length mc0) mr * _)) (some ⟨nb,0,none⟩) 1 1 (z6P.enc ⟨some ⟨mb,0,none⟩,z1w c k,z1w c k⟩) rfl rfl (by simp) (fun a ha j u hj=>?_) (z6P.one _) (by unfold maxLen;omega) (by omega) ?_
     ·obtain rfl:=Option.some.inj ha;have:=hs10.cell hj;rw [Nat.zero_add] at this;rw [← this];cases j <;> simp [Addr.add]
     intro v11 w11 hs11 _;have hs12:=Sat.snoc hs11;clear hs10 hs11;obtain ⟨mr2,hmr2⟩ : ∃ l,l = mr ++ [⟨some ⟨mb,0,none⟩,z1w c k,z1w c k⟩]:=⟨_,rfl⟩;have hl5 : mr2.length ≤ 17:=by rw [hmr2,List.length_append];simp;omega
     rw [← hmr2] at hs12;obtain ⟨ml2,mc2,rfl⟩:=hs12.recs_form;have Hmr2:=hid hmr2;clear hmr2;refine hK _ _ ⟨⟨z4,z4⟩,?_⟩;clear hK K;simp only [Act.put,zqA,zqP,zqQ]
     iterate 2 ((first | refine zn fun K hK=>?_ | refine zo fun K hK=>?_);simp only [zqS,zqZ]; (first | (rw [if_pos (by rfl)];apply Exists.intro;refine ⟨fun w hSw=>?_,hK _ ?_⟩; (focus ((try dsimp only at hSw);go_simp;try with_reducible rfl))) | (rw [if_neg (ne_true_of_eq_false (by rfl))];refine hK _ ?_));clear hK K;simp only [Act.put,zqA,zqP,zqQ])
     refine z14 (fun K hK=>?_);simp only [zqS,zqZ];rw [if_pos (by rfl)];go_wp2_with fail;refine z0a ?_;go_wp2_with fail;go_roundw
     case rel =>
      have hJ:=HJ.out;have e2 : (⟨some ⟨mb,0,none⟩,mb,0,z1w c k⟩ : Hd).ad (z1w c k) = some ⟨mb,0,none⟩:=by unfold Hd.ad;split <;> rfl
      refine ⟨k + 1,ml2,mc2,upd hM k ⟨some ⟨mb,0,none⟩,mb,0,z1w c k⟩,mr2,by omega,by go_num,⟨?_,fun t ht=>?_⟩,?_⟩
      ·rw [Hmr2.out,hJ.1,zi1,e2]
      ·by_cases e : t = k
       ·rw [e,zK];exact ⟨Nat.le_refl _,by unfold maxLen;show z1w c k ≤ _;omega⟩
       ·rw [zL _ _ e];exact hJ.2 t (by omega)
      ·rw [z6h (f:=fun t h=>pts h.b h.o ((List.replicate (z1w c t) (0 : Int)).map (Value.int .u32)))];exact Sat.perm (show Sat w0 _ (pts kb 541 [.slice ml2 mr2.length mc2,.slice ta1 tr.length tc1,.pointer none,.slice none 0 0,.slice none 0 0,.pointer none,.int .u64 0,.bool false] * (z7 (.slice ml2 mr2.length mc2) mr2 * (z0F (fun t=>pts (hM t).b (hM t).o ((List.replicate (z1w c t) (0 : Int)).map (Value.int .u32))) k * (pts mb 0 ((List.replicate (z1w c k) (0 : Int)).map (Value.int .u32)) * (z21 kb 2 (z0p c c.ts.length) * (z5 .i64 (.slice lva lv.length lvc) lv * (z7 (.slice ta1 tr.length tc1) tr * (z0F (fun t=>pts (hT t).b (hT t).o ((List.replicate (z1x c t) (0 : Int)).map (Value.int .u32))) c.ts.length * (pts kb 0 [.int .u64 c.count,.int .u64 c.cycle] * (pts kb 259 [.int .i64 c.table] * (rdP kb 260 (fun _=>[]) * (pts kb 518 [.slice at0 c.ts.length x.ct.cap,.slice (some ⟨x.cl.b,x.cl.o,none⟩) c.ls.length x.cl.cap,.int .i64 c.mutexes,.slice as0 c.sems.length x.cs.cap,.slice aq0 c.queues.length x.cq.cap,.slice (x.cm.ad c.timers.length) c.timers.length x.cm.cap,.int .i64 c.table,.int .u32 c.mask,.int .u32 c.filter,.int .i64 c.charge,.int .u64 c.cycle,.int .u64 c.count] * (pts kb 530 [.int .i64 255] * (pts kb 531 (cxL 0 r80 (.slice none 0 0)) * (pts kb 549 [.slice none 0 0] * (pts w0.heap.size 0 [.slice at0 c.ts.length x.ct.cap,.slice (some ⟨x.cl.b,x.cl.o,none⟩) c.ls.length x.cl.cap,.int .i64 c.mutexes,.slice as0 c.sems.length x.cs.cap,.slice aq0 c.queues.length x.cq.cap,.slice (x.cm.ad c.timers.length) c.timers.length x.cm.cap,.int .i64 c.table,.int .u32 c.mask,.int .u32 c.filter,.int .i64 c.charge,.int .u64 c.cycle,.int .u64 c.count] * (pts (w0.heap.size + 1) 0 [.int .i64 0,.int .i64 0,.int .i64 0,.int .i64 0] * (cfH x c * (any))))))))))))))))))) from z3) (by ac_rfl)
     case measure=>simp [intOf];omega
    ·have hkn : k = c.ls.length:=by omega
     subst hkn;have d4 : decide (c.ls.length < c.ls.length) = false:=by simp
     clear hlt hk;go_wp2_with fail;refine (zmk _ lv c.mutexes w0 _ _ own hl1 OK.out.mu (by rw [HI.out.1];exact (fun x hx=>by obtain ⟨t,ht,rfl⟩:=List.mem_map.1 hx;exact (OK.out.t t (List.mem_range.1 ht)).1))).mono ?_;rintro en w20 ⟨v20,rfl,hs20⟩;obtain ⟨lb,hs21⟩:=(hs20.perm (zz _).symm).ex_out;obtain ⟨e20,hs22⟩:=(hs21.perm (zb _ _ _)).pur_out;subst e20;have hs23:=hs22.perm (zz _);clear hs20 hs21 hs22 hsr;go_wp2_with fail;refine z9 (w0:=w0) ?_;intro w24 hs24;clear hs23
     go_loopw [112] (fun i wr=>∃ k : Nat, ∃ sl : Option Addr, ∃ sc0 : Nat, ∃ sb : Nat → Nat, ∃ sr : List Pv,k ≤ c.sems.length ∧ i = .int .i64 k ∧ sr = prK sb k ∧ Sat w0 wr (pts kb 541 [.slice ml mr.length mc0,.slice ta1 tr.length tc1,.pointer (some ⟨lb,0,none⟩),.slice sl sr.length sc0,.slice none 0 0,.pointer none,.int .u64 0,.bool false] * (z7 (.slice sl sr.length sc0) sr * (z0F (fun t=>z3f (sb t) (lg c.sems t) []) k * (lkP lb (z5x lv c.mutexes.toNat) * (z7 (.slice ml mr.length mc0) mr * (z0F (fun t=>pts (hM t).b (hM t).o ((List.replicate (z1w c t) (0 : Int)).map (Value.int .u32))) c.ls.length * (z21 kb 2 (z0p c c.ts.length) * (z5 .i64 (.slice lva lv.length lvc) lv * (z7 (.slice ta1 tr.length tc1) tr * (z0F (fun t=>pts (hT t).b (hT t).o ((List.replicate (z1x c t) (0 : Int)).map (Value.int .u32))) c.ts.length * (pts kb 0 [.int .u64 c.count,.int .u64 c.cycle] * (pts kb 259 [.int .i64 c.table] * (rdP kb 260 (fun _=>[]) * (pts kb 518 [.slice at0 c.ts.length x.ct.cap,.slice al0 c.ls.length x.cl.cap,.int .i64 c.mutexes,.slice as0 c.sems.length x.cs.cap,.slice aq0 c.queues.length x.cq.cap,.slice (x.cm.ad c.timers.length) c.timers.length x.cm.cap,.int .i64 c.table,.int .u32 c.mask,.int .u32 c.filter,.int .i64 c.charge,.int .u64 c.cycle,.int .u64 c.count] * (pts kb 530 [.int .i64 255] * (pts kb 531 (cxL 0 r80 (.slice none 0 0)) * (pts kb 549 [.slice none 0 0] * (pts w0.heap.size 0 [.slice at0 c.ts.length x.ct.cap,.slice al0 c.ls.length x.cl.cap,.int .i64 c.mutexes,.slice as0 c.sems.length x.cs.cap,.slice aq0 c.queues.length x.cq.cap,.slice (x.cm.ad c.timers.length) c.timers.length x.cm.cap,.int .i64 c.table,.int .u32 c.mask,.int .u32 c.filter,.int .i64 c.charge,.int .u64 c.cycle,.int .u64 c.count] * (pts (w0.heap.size + 1) 0 [.int .i64 0,.int .i64 0,.int .i64 0,.int .i64 0] * (cfH x c * (any)))))))))))))))))))))) (fun i _=>c.sems.length - (intOf i).toNat)
     case atStart =>
      refine ⟨0,none,0,fun _=>0,[],Nat.zero_le _,rfl,rfl,?_⟩;refine mpS (P:=pts kb 541 [.slice ml mr.length mc0,.slice ta1 tr.length tc1,.pointer (some ⟨lb,0,none⟩),.slice none 0 0,.slice none 0 0,.pointer none,.int .u64 0,.bool false] * (lkP lb (z5x lv c.mutexes.toNat) * (z7 (.slice ml mr.length mc0) mr * (z0F (fun t=>pts (hM t).b (hM t).o ((List.replicate (z1w c t) (0 : Int)).map (Value.int .u32))) c.ls.length * (z21 kb 2 (z0p c c.ts.length) * (z5 .i64 (.slice lva lv.length lvc) lv * (z7 (.slice ta1 tr.length tc1) tr * (z0F (fun t=>pts (hT t).b (hT t).o ((List.replicate (z1x c t) (0 : Int)).map (Value.int .u32))) c.ts.length * (pts kb 0 [.int .u64 c.count,.int .u64 c.cycle] * (pts kb 259 [.int .i64 c.table] * (rdP kb 260 (fun _=>[]) * (pts kb 518 [.slice at0 c.ts.length x.ct.cap,.slice al0 c.ls.length x.cl.cap,.int .i64 c.mutexes,.slice as0 c.sems.length x.cs.cap,.slice aq0 c.queues.length x.cq.cap,.slice (x.cm.ad c.timers.length) c.timers.length x.cm.cap,.int .i64 c.table,.int .u32 c.mask,.int .u32 c.filter,.int .i64 c.charge,.int .u64 c.cycle,.int .u64 c.count] * (pts kb 530 [.int .i64 255] * (pts kb 531 (cxL 0 r80 (.slice none 0 0)) * (pts kb 549 [.slice none 0 0] * (pts w0.heap.size 0 [.slice at0 c.ts.length x.ct.cap,.slice al0 c.ls.length x.cl.cap,.int .i64 c.mutexes,.slice as0 c.sems.length x.cs.cap,.slice aq0 c.queues.length x.cq.cap,.slice (x.cm.ad c.timers.length) c.timers.length x.cm.cap,.int .i64 c.table,.int .u32 c.mask,.int .u32 c.filter,.int .i64 c.charge,.int .u64 c.cycle,.int .u64 c.count] * (pts (w0.heap.size + 1) 0 [.int .i64 0,.int .i64 0,.int .i64 0,.int .i64 0] * (cfH x c * (any))))))))))))))))))) z3 (fun hz=>hz.perm (by show _ = _ * (z7 (α:=Pv) (.slice none 0 0) [] * (emp * _));rw [z03,zm,zm];rfl))
     case round =>
      obtain ⟨k,sl,sc0,sb,sr,hk,rfl,hJ,hsr⟩:=hrel;clear hs24;have hl_sr : sr.length ≤ 32:=by have:=OK.out.ns;rw [hJ,z5z];omega
      have HJ_sr:=hid hJ;clear hJ
      by_cases hlt : k < c.sems.length
      ·have d_sr : decide (k < c.sems.length) = true:=decide_eq_true hlt;have i_sr : (k : Int) < (c.sems.length : Int):=by omega
       obtain rfl : as0 = some ⟨x.cs.b,x.cs.o,none⟩:=HS0.out.symm.trans (x.cs.ad_pos (by omega));haveI : Lt k c.sems.length:=⟨hlt⟩;go_wp2_with fail;refine (zen (lg c.sems k) w0 _ _ z6 (OK.out.sems _ (ze1 hlt))).mono ?_;rintro en w26 ⟨rfl,hs26⟩;clear hsr;generalize wr.heap.size = pb at *;go_wp2_with (first | (at_builtin;refine zA rfl rfl rfl rfl (by omega) ?_;intro ap ac aL aw ahL ah1 ah2 ahs _) | (refine z07 rfl rfl rfl rfl (by omega) (by omega) ?_;intro px pc pL php phL ph1 ph2) | (refine z0r rfl rfl rfl rfl (by omega) (by omega) ?_;intro px pc pL php phL ph1 ph2));go_roundw
       case rel =>
        refine ⟨k + 1,ap,ac,upd sb k pb,aL,by omega,by go_num,?_,?_⟩
        ·rw [ahL,HJ_sr.out,zdg]
        ·rw [z9R (f:=fun t b=>z3f b (lg c.sems t) [])];exact Sat.perm (show Sat w0 _ (pts kb 541 [.slice ml mr.length mc0,.slice ta1 tr.length tc1,.pointer (some ⟨lb,0,none⟩),.slice ap aL.length ac,.slice none 0 0,.pointer none,.int .u64 0,.bool false] * (z7 (.slice ap aL.length ac) aL * (z0F (fun t=>z3f (sb t) (lg c.sems t) []) k * (z3f pb (lg c.sems k) [] * (lkP lb (z5x lv c.mutexes.toNat) * (z7 (.slice ml mr.length mc0) mr * (z0F (fun t=>pts (hM t).b (hM t).o ((List.replicate (z1w c t) (0 : Int)).map (Value.int .u32))) c.ls.length * (z21 kb 2 (z0p c c.ts.length) * (z5 .i64 (.slice lva lv.length lvc) lv * (z7 (.slice ta1 tr.length tc1) tr * (z0F (fun t=>pts (hT t).b (hT t).o ((List.replicate (z1x c t) (0 : Int)).map (Value.int .u32))) c.ts.length * (pts kb 0 [.int .u64 c.count,.int .u64 c.cycle] * (pts kb 259 [.int .i64 c.table] * (rdP kb 260 (fun _=>[]) * (pts kb 518 [.slice at0 c.ts.length x.ct.cap,.slice al0 c.ls.length x.cl.cap,.int .i64 c.mutexes,.slice (some ⟨x.cs.b,x.cs.o,none⟩) c.sems.length x.cs.cap,.slice aq0 c.queues.length x.cq.cap,.slice (x.cm.ad c.timers.length) c.timers.length x.cm.cap,.int .i64 c.table,.int .u32 c.mask,.int .u32 c.filter,.int .i64 c.charge,.int .u64 c.cycle,.int .u64 c.count] * (pts kb 530 [.int .i64 255] * (pts kb 531 (cxL 0 r80 (.slice none 0 0)) * (pts kb 549 [.slice none 0 0] * (pts w0.heap.size 0 [.slice at0 c.ts.length x.ct.cap,.slice al0 c.ls.length x.cl.cap,.int .i64 c.mutexes,.slice (some ⟨x.cs.b,x.cs.o,none⟩) c.sems.length x.cs.cap,.slice aq0 c.queues.length x.cq.cap,.slice (x.cm.ad c.timers.length) c.timers.length x.cm.cap,.int .i64 c.table,.int .u32 c.mask,.int .u32 c.filter,.int .i64 c.charge,.int .u64 c.cycle,.int .u64 c.count] * (pts (w0.heap.size + 1) 0 [.int .i64 0,.int .i64 0,.int .i64 0,.int .i64 0] * (cfH x c * (any)))))))))))))))))))))) from z3) (by ac_rfl)
       case measure=>simp [intOf];omega
      ·have hkn : k = c.sems.length:=by omega
       subst hkn;have d_sr : decide (c.sems.length < c.sems.length) = false:=by simp
       clear hlt hk;go_wp2_with fail;refine z9 (w0:=w0) ?_;intro w30 hs30;clear hsr
       go_loopw [135] (fun i wr=>∃ k : Nat, ∃ ql : Option Addr, ∃ qc0 : Nat, ∃ qb : Nat → Nat, ∃ qr : List Pv,k ≤ c.queues.length ∧ i = .int .i64 k ∧ qr = prK qb k ∧ Sat w0 wr (pts kb 541 [.slice ml mr.length mc0,.slice ta1 tr.length tc1,.pointer (some ⟨lb,0,none⟩),.slice sl sr.length sc0,.slice ql qr.length qc0,.pointer none,.int .u64 0,.bool false] * (z7 (.slice ql qr.length qc0) qr * (z0F (fun t=>mqP (qb t) (zjm (lg c.queues t))) k * (z7 (.slice sl sr.length sc0) sr * (z0F (fun t=>z3f (sb t) (lg c.sems t) []) c.sems.length * (lkP lb (z5x lv c.mutexes.toNat) * (z7 (.slice ml mr.length mc0) mr * (z0F (fun t=>pts (hM t).b (hM t).o ((List.replicate (z1w c t) (0 : Int)).map (Value.int .u32))) c.ls.length * (z21 kb 2 (z0p c c.ts.length) * (z5 .i64 (.slice lva lv.length lvc) lv * (z7 (.slice ta1 tr.length tc1) tr * (z0F (fun t=>pts (hT t).b (hT t).o ((List.replicate (z1x c t) (0 : Int)).map (Value.int .u32))) c.ts.length * (pts kb 0 [.int .u64 c.count,.int .u64 c.cycle] * (pts kb 259 [.int .i64 c.table] * (rdP kb 260 (fun _=>[]) * (pts kb 518 [.slice at0 c.ts.length x.ct.cap,.slice al0 c.ls.length x.cl.cap,.int .i64 c.mutexes,.slice as0 c.sems.length x.cs.cap,.slice aq0 c.queues.length x.cq.cap,.slice (x.cm.ad c.timers.length) c.timers.length x.cm.cap,.int .i64 c.table,.int .u32 c.mask,.int .u32 c.filter,.int .i64 c.charge,.int .u64 c.cycle,.int .u64 c.count] * (pts kb 530 [.int .i64 255] * (pts kb 531 (cxL 0 r80 (.slice none 0 0)) * (pts kb 549 [.slice none 0 0] * (pts w0.heap.size 0 [.slice at0 c.ts.length x.ct.cap,.slice al0 c.ls.length x.cl.cap,.int .i64 c.mutexes,.slice as0 c.sems.length x.cs.cap,.slice aq0 c.queues.length x.cq.cap,.slice (x.cm.ad c.timers.length) c.timers.length x.cm.cap,.int .i64 c.table,.int .u32 c.mask,.int .u32 c.filter,.int .i64 c.charge,.int .u64 c.cycle,.int .u64 c.count] * (pts (w0.heap.size + 1) 0 [.int .i64 0,.int .i64 0,.int .i64 0,.int .i64 0] * (cfH x c * (any)))))))))))))))))))))))) (fun i _=>c.queues.length - (intOf i).toNat)
       case atStart =>
        refine ⟨0,none,0,fun _=>0,[],Nat.zero_le _,rfl,rfl,?_⟩;refine mpS (P:=pts kb 541 [.slice ml mr.length mc0,.slice ta1 tr.length tc1,.pointer (some ⟨lb,0,none⟩),.slice sl sr.length sc0,.slice none 0 0,.pointer none,.int .u64 0,.bool false] * (z7 (.slice sl sr.length sc0) sr * (z0F (fun t=>z3f (sb t) (lg c.sems t) []) c.sems.length * (lkP lb (z5x lv c.mutexes.toNat) * (z7 (.slice ml mr.length mc0) mr * (z0F (fun t=>pts (hM t).b (hM t).o ((List.replicate (z1w c t) (0 : Int)).map (Value.int .u32))) c.ls.length * (z21 kb 2 (z0p c c.ts.length) * (z5 .i64 (.slice lva lv.length lvc) lv * (z7 (.slice ta1 tr.length tc1) tr * (z0F (fun t=>pts (hT t).b (hT t).o ((List.replicate (z1x c t) (0 : Int)).map (Value.int .u32))) c.ts.length * (pts kb 0 [.int .u64 c.count,.int .u64 c.cycle] * (pts kb 259 [.int .i64 c.table] * (rdP kb 260 (fun _=>[]) * (pts kb 518 [.slice at0 c.ts.length x.ct.cap,.slice al0 c.ls.length x.cl.cap,.int .i64 c.mutexes,.slice as0 c.sems.length x.cs.cap,.slice aq0 c.queues.length x.cq.cap,.slice (x.cm.ad c.timers.length) c.timers.length x.cm.cap,.int .i64 c.table,.int .u32 c.mask,.int .u32 c.filter,.int .i64 c.charge,.int .u64 c.cycle,.int .u64 c.count] * (pts kb 530 [.int .i64 255] * (pts kb 531 (cxL 0 r80 (.slice none 0 0)) * (pts kb 549 [.slice none 0 0] * (pts w0.heap.size 0 [.slice at0 c.ts.length x.ct.cap,.slice al0 c.ls.length x.cl.cap,.int .i64 c.mutexes,.slice as0 c.sems.length x.cs.cap,.slice aq0 c.queues.length x.cq.cap,.slice (x.cm.ad c.timers.length) c.timers.length x.cm.cap,.int .i64 c.table,.int .u32 c.mask,.int .u32 c.filter,.int .i64 c.charge,.int .u64 c.cycle,.int .u64 c.count] * (pts (w0.heap.size + 1) 0 [.int .i64 0,.int .i64 0,.int .i64 0,.int .i64 0] * (cfH x c * (any))))))))))))))))))))) z3 (fun hz=>hz.perm (by show _ = _ * (z7 (α:=Pv) (.slice none 0 0) [] * (emp * _));rw [z03,zm,zm];rfl))
       case round =>
        obtain ⟨k,ql,qc0,qb,qr,hk,rfl,hJ,hsr⟩:=hrel;clear hs30;have hl_qr : qr.length ≤ 32:=by have:=OK.out.nq;rw [hJ,z5z];omega
        have HJ_qr:=hid hJ;clear hJ
        by_cases hlt : k < c.queues.length
        ·have d_qr : decide (k < c.queues.length) = true:=decide_eq_true hlt;have i_qr : (k : Int) < (c.queues.length : Int):=by omega
         obtain rfl : aq0 = some ⟨x.cq.b,x.cq.o,none⟩:=HQ0.out.symm.trans (x.cq.ad_pos (by omega));haveI : Lt k c.queues.length:=⟨hlt⟩;go_wp2_with fail;have hqk:=OK.out.queues _ (ze1 hlt);refine (zhS (lg c.queues k) w0 _ _ z6 hqk).mono ?_;rintro en w26 ⟨rfl,hs26⟩;clear hsr;generalize wr.heap.size = pb at *;go_wp2_with (first | (at_builtin;refine zA rfl rfl rfl rfl (by omega) ?_;intro ap ac aL aw ahL ah1 ah2 ahs _) | (refine z07 rfl rfl rfl rfl (by omega) (by omega) ?_;intro px pc pL php phL ph1 ph2) | (refine z0r rfl rfl rfl rfl (by omega) (by omega) ?_;intro px pc pL php phL ph1 ph2));go_roundw
         case rel =>
          refine ⟨k + 1,ap,ac,upd qb k pb,aL,by omega,by go_num,?_,?_⟩
          ·rw [ahL,HJ_qr.out,zdg]
          ·rw [z9R (f:=fun t b=>mqP b (zjm (lg c.queues t)))];exact Sat.perm (show Sat w0 _ (pts kb 541 [.slice ml mr.length mc0,.slice ta1 tr.length tc1,.pointer (some ⟨lb,0,none⟩),.slice sl sr.length sc0,.slice ap aL.length ac,.pointer none,.int .u64 0,.bool false] * (z7 (.slice ap aL.length ac) aL * (z0F (fun t=>mqP (qb t) (zjm (lg c.queues t))) k * (mqP pb (zjm (lg c.queues k)) * (z7 (.slice sl sr.length sc0) sr * (z0F (fun t=>z3f (sb t) (lg c.sems t) []) c.sems.length * (lkP lb (z5x lv c.mutexes.toNat) * (z7 (.slice ml mr.length mc0) mr * (z0F (fun t=>pts (hM t).b (hM t).o ((List.replicate (z1w c t) (0 : Int)).map (Value.int .u32))) c.ls.length * (z21 kb 2 (z0p c c.ts.length) * (z5 .i64 (.slice lva lv.length lvc) lv * (z7 (.slice ta1 tr.length tc1) tr * (z0F (fun t=>pts (hT t).b (hT t).o ((List.replicate (z1x c t) (0 : Int)).map (Value.int .u32))) c.ts.length * (pts kb 0 [.int .u64 c.count,.int .u64 c.cycle] * (pts kb 259 [.int .i64 c.table] * (rdP kb 260 (fun _=>[]) * (pts kb 518 [.slice at0 c.ts.length x.ct.cap,.slice al0 c.ls.length x.cl.cap,.int .i64 c.mutexes,.slice as0 c.sems.length x.cs.cap,.slice (some ⟨x.cq.b,x.cq.o,none⟩) c.queues.length x.cq.cap,.slice (x.cm.ad c.timers.length) c.timers.length x.cm.cap,.int .i64 c.table,.int .u32 c.mask,.int .u32 c.filter,.int .i64 c.charge,.int .u64 c.cycle,.int .u64 c.count] * (pts kb 530 [.int .i64 255] * (pts kb 531 (cxL 0 r80 (.slice none 0 0)) * (pts kb 549 [.slice none 0 0] * (pts w0.heap.size 0 [.slice at0 c.ts.length x.ct.cap,.slice al0 c.ls.length x.cl.cap,.int .i64 c.mutexes,.slice as0 c.sems.length x.cs.cap,.slice (some ⟨x.cq.b,x.cq.o,none⟩) c.queues.length x.cq.cap,.slice (x.cm.ad c.timers.length) c.timers.length x.cm.cap,.int .i64 c.table,.int .u32 c.mask,.int .u32 c.filter,.int .i64 c.charge,.int .u64 c.cycle,.int .u64 c.count] * (pts (w0.heap.size + 1) 0 [.int .i64 0,.int .i64 0,.int .i64 0,.int .i64 0] * (cfH x c * (any)))))))))))))))))))))))) from z3) (by ac_rfl)
         case measure=>simp [intOf];omega
        ·have hkn : k = c.queues.length:=by omega
         subst hkn;have d_qr : decide (c.queues.length < c.queues.length) = false:=by simp
         clear hlt hk;go_wp2_with fail;refine (znv c.ls.length c.mask w0 _ _ z6 hnl OK.out.mask).mono ?_;rintro en w34 ⟨rfl,hs34⟩;clear hsr;generalize wr.heap.size = nb at *;go_wp2_with fail;go_returns;refine ⟨_,rfl,?_⟩;obtain rfl:=HA0.out;obtain rfl:=HL0.out;obtain rfl:=HS0.out;obtain rfl:=HQ0.out;obtain rfl:=HI.out.2.1;obtain rfl:=HI.out.1;obtain rfl:=HJ.out.1;obtain rfl:=HJ_sr.out;obtain rfl:=HJ_qr.out;refine Sat.perm (Sat.ex_in (F:=emp) kb ?_) (zz _);refine mpS (P:=ex fun y : Fx=>knP kb y c (z34 c)) (zno kb nb lb x c hT hM sb qb ml ta1 sl ql mc0 tc1 sc0 qc0 z3) (fun hz=>?_);obtain ⟨y,hy⟩:=(hz.perm (zz _).symm).ex_out;refine Sat.ex_in (F:=emp) y ?_;exact Sat.perm (Sat.pur_in rfl (F:=knP kb y c (z34 c)) (hy.perm (zz _))) (zz _).symm
theorem z2c {c : Cf} {K : Kn} (h : Inv c K) {t : Nat} (ht : t < c.ts.length) (hs : 2 ≤ (K.T t).st ∧ (K.T t).st ≤ 6) : z4A c K t:=by
 have hT:=h.T t ht;have hb:=hT.blk hs.1 hs.2;exact ⟨h.cf,h.S,ht,hb.1,hb.2,hT.lev,(z6H h ht hb.1 hb.2).a⟩
theorem z4A.same {c : Cf} {K K' : Kn} {t : Nat} (o : z4A c K t) (e1 : K'.T = K.T) (e2 : K'.S = K.S) : z4A c K' t :=
 ⟨o.cf,by rw [e2];exact o.S,o.lt,by rw [e1];exact o.at1,by rw [e1];exact o.at2,by rw [e1];exact o.lev,by unfold Kn.call;rw [e1];exact o.a⟩
theorem zW {c : Cf} (K : Kn) (kd : Nat) (a b v : Int) : (K.tell c kd a b v).told.length ≤ K.told.length + 1:=by unfold Kn.tell;split <;> simp
theorem zfk (b : Nat) (x : Fx) (c : Cf) (K : Kn) (who : Int) (s : Nat) (h : Inv c K) (hw : 0 ≤ who ∧ who ≤ 80) (hsl : s < c.sems.length) (w0 w : World) (F : HP) (hs : Sat w0 w (knP b x c K * F)) (hl : K.told.length ≤ 99990) :
  Calls Tryz.prog 82 #[.pointer (some ⟨b,0,none⟩),.int .i64 who,.int .i64 s] w (zp w0 (.int .i64 (K.postE s)) (knP b x c (K.post c who s) * F)):=by
 have hnt:=h.cf.nt;have hns:=h.cf.ns;have hok:=h.sm s hsl;haveI : Lt s c.sems.length:=⟨hsl⟩;have a1:=x.sa.ad_pos (show 0 < c.sems.length by omega);have i1 : (s : Int) < (c.sems.length : Int):=by omega
 have d1 : decide (s < c.sems.length) = true:=decide_eq_true hsl;have hLev:=hid (fun w G hs=>z43 b x c K w0 w G hs h.L.fit);have hPost:=hid (fun lv w G hs hr=>zkm b x c K w0 w G hs s hsl hok lv K.L.now hr);have hw0:=hw.1;have hw1:=hw.2;have Hl:=hid hl
 by_cases he : K.postE s = 0
 ·have hx : K.post c who s = if (K.sm s).2 ≠ [] then ((K.wSm (upd K.sm s (z1Z (K.sm s).1 (K.sm s).2,z2I K.L.now (K.sm s).2))).tell c 14 who s (z1Z (K.sm s).1 (K.sm s).2)).wake c (zD K.L.now (K.sm s).2).toNat 1 0 else (K.wSm (upd K.sm s (z1Z (K.sm s).1 (K.sm s).2,z2I K.L.now (K.sm s).2))).tell c 14 who s (z1Z (K.sm s).1 (K.sm s).2):=by
   unfold Kn.post;exact if_neg (fun a=>a he)
  have he' : Go.Proofs.YthcfimbidmogkaaGreatDoor.postE (K.sm s).1 (K.sm s).2 = 0:=he;have hu:=z5G hok K.L.now;have hTell:=hid (fun (v : Int) (hv : v = z1Z (K.sm s).1 (K.sm s).2) (kI : Int) (hk : kI = 14) (w : World) (G : HP) (hs : Sat w0 w (knP b x c (K.wSm (upd K.sm s (z1Z (K.sm s).1 (K.sm s).2,z2I K.L.now (K.sm s).2))) * G))=>zN b x c (K.wSm (upd K.sm s (z1Z (K.sm s).1 (K.sm s).2,z2I K.L.now (K.sm s).2))) 14 kI hk who s v w0 w G hs h.cf (by decide) ⟨by omega,by omega⟩ ⟨by omega,by omega⟩ (by rw [hv];exact ⟨hu.lo,by have:=hu.hi;omega⟩) (by show K.told.length ≤ 100000;omega));have hUn:=hid (fun (w : World) (G : HP) (hs : Sat w0 w (knP b x c (K.wSm (upd K.sm s (z1Z (K.sm s).1 (K.sm s).2,z2I K.L.now (K.sm s).2))) * G))=>z99 b x c _ w0 w G hs s hsl);have hv0:=hu.lo;have hv1:=hu.hi
  by_cases hr : (K.sm s).2 = []
  ·rw [if_neg (by simp [hr])] at hx;have hpt : z7s K.L.now (K.sm s).2 = 255:=by unfold z7s;rw [if_neg (by simp [hr])]
   rw [he,hx];have Hr:=hid hr;clear hx hr h hok he hl hw hu
   go_enter Tryz.func82,Tryz.ntmps82
   go_wp2_with fail;refine z9 (w0:=w0) ?_;intro wx hsx;clear hs;refine zj (fun w'=>w'.cell? ⟨b,544,none⟩ = some (x.sa.v c.sems.length) ∧ w'.cell? ⟨x.sa.b,x.sa.o + s,none⟩ = some (.pointer (some ⟨x.sb s,0,none⟩)) ∧ w'.cell? ⟨b,543,none⟩ = some (.pointer (some ⟨x.lk,0,none⟩))) [(0,true),(1,true),(2,true),(3,true),(4,true),(5,true),(6,true),(7,true),(8,true),(9,true),(10,true),(11,false),(12,false),(13,true),(14,true),(15,true),(16,true),(17,true)] (by kernel_rfl) (by kernel_rfl) (fun _ _ _ _ h=>h) ⟨z4,z4,z4⟩ ?_
   iterate 11 (refine zf (fun K hK=>?_);simp only [zqS,zqZ]; (first | (rw [if_pos (by rfl)];apply Exists.intro;refine ⟨fun w hSw=>?_,hK _ ?_⟩; (focus ((try dsimp only at hSw);go_simp;try with_reducible rfl))) | (rw [if_neg (ne_true_of_eq_false (by rfl))];refine hK _ ?_));clear hK K;simp only [Act.put,zqA,zqP,zqQ])
   refine ze (fun K hK=>?_);simp only [zqS,zqZ];rw [if_pos (by rfl)];go_wp2_with fail;refine (hLev.out _ _ z6).mono ?_;rintro en w1 ⟨lv,rfl,hs1⟩;obtain ⟨la,lc,rfl⟩:=hs1.slice_form;clear hsx;go_wp2_with fail;refine ⟨⟨z4,z4,z4⟩,?_⟩;refine ze (fun K hK=>?_);simp only [zqS,zqZ];rw [if_pos (by rfl)];go_wp2_with fail;refine (hPost.out _ _ _ own rd).mono ?_;rintro en w2 ⟨rfl,hs2⟩;clear hs1;go_wp2_with fail;refine ⟨⟨z4,z4,z4⟩,?_⟩
   iterate 5 (refine zf (fun K hK=>?_);simp only [zqS,zqZ]; (first | (rw [if_pos (by rfl)];apply Exists.intro;refine ⟨fun w hSw=>?_,hK _ ?_⟩; (focus ((try dsimp only at hSw);go_simp;try with_reducible rfl))) | (rw [if_neg (ne_true_of_eq_false (by rfl))];refine hK _ ?_));clear hK K;simp only [Act.put,zqA,zqP,zqQ])
   refine zB ?_;go_wp2_with fail;refine (hUn.out _ _ z6).mono ?_;rintro en w3 ⟨rfl,hs3⟩;clear hs2;go_wp2_with fail;refine (hTell.out _ rfl _ rfl _ _ z6).mono ?_;rintro en w4 ⟨rfl,hs4⟩;clear hs3;go_wp2_with fail;go_ret;exact ⟨rfl,z3⟩
  ·rw [if_pos hr] at hx;have hb:=z1n K.L.now _ hr;have hb2:=h.smr s hsl _ hb;have hb0:=(hok.row.2 _ hb).1;obtain ⟨tn,htn⟩:=Int.eq_ofNat_of_zero_le hb0;have hpt : z7s K.L.now (K.sm s).2 = tn:=by unfold z7s;rw [if_pos hr];exact htn
   rw [htn] at hb2;rw [htn] at hx;rw [Int.toNat_natCast] at hb2 hx;have ht64 : tn < 64:=by omega
   have htl : tn < c.ts.length:=by omega
   have oW:=z2c h htl ⟨by omega,by omega⟩;have hWake:=hid (fun (K' : Kn) (e1 : K'.T = K.T) (e2 : K'.S = K.S) (hl : K'.told.length ≤ 100000) (w : World) (G : HP) (hs : Sat w0 w (knP b x c K' * G))=>zax b x c K' tn (oW.same e1 e2) 1 0 (.inr rfl) (by decide) w0 w G hs hl);have hlt:=hid (fun K' (e : K' = (K.wSm (upd K.sm s (z1Z (K.sm s).1 (K.sm s).2,z2I K.L.now (K.sm s).2))).tell c 14 who s (z1Z (K.sm s).1 (K.sm s).2))=>(show K'.told.length ≤ 100000 by rw [e];exact Nat.le_trans (zW _ _ _ _ _) (by show K.told.length + 1 ≤ 100000;omega)));have e5 : ((tn : Int) == 255) = false:=by simp;omega
   rw [he,hx];clear hx hr h hok he hl hw hu hb hb0 htn oW hb2
   go_enter Tryz.func82,Tryz.ntmps82
   go_wp2_with fail;refine z9 (w0:=w0) ?_;intro wx hsx;clear hs;refine zj (fun w'=>w'.cell? ⟨b,544,none⟩ = some (x.sa.v c.sems.length) ∧ w'.cell? ⟨x.sa.b,x.sa.o + s,none⟩ = some (.pointer (some ⟨x.sb s,0,none⟩)) ∧ w'.cell? ⟨b,543,none⟩ = some (.pointer (some ⟨x.lk,0,none⟩))) [(0,true),(1,true),(2,true),(3,true),(4,true),(5,true),(6,true),(7,true),(8,true),(9,true),(10,true),(11,false),(12,false),(13,true),(14,true),(15,true),(16,true),(17,true)] (by kernel_rfl) (by kernel_rfl) (fun _ _ _ _ h=>h) ⟨z4,z4,z4⟩ ?_
   iterate 11 (refine zf (fun K hK=>?_);simp only [zqS,zqZ]; (first | (rw [if_pos (by rfl)];apply Exists.intro;refine ⟨fun w hSw=>?_,hK _ ?_⟩; (focus ((try dsimp only at hSw);go_simp;try with_reducible rfl))) | (rw [if_neg (ne_true_of_eq_false (by rfl))];refine hK _ ?_));clear hK K;simp only [Act.put,zqA,zqP,zqQ])
   refine ze (fun K hK=>?_);simp only [zqS,zqZ];rw [if_pos (by rfl)];go_wp2_with fail;refine (hLev.out _ _ z6).mono ?_;rintro en w1 ⟨lv,rfl,hs1⟩;obtain ⟨la,lc,rfl⟩:=hs1.slice_form;clear hsx;go_wp2_with fail;refine ⟨⟨z4,z4,z4⟩,?_⟩;refine ze (fun K hK=>?_);simp only [zqS,zqZ];rw [if_pos (by rfl)];go_wp2_with fail;refine (hPost.out _ _ _ own rd).mono ?_;rintro en w2 ⟨rfl,hs2⟩;clear hs1;go_wp2_with fail;refine ⟨⟨z4,z4,z4⟩,?_⟩
   iterate 5 (refine zf (fun K hK=>?_);simp only [zqS,zqZ]; (first | (rw [if_pos (by rfl)];apply Exists.intro;refine ⟨fun w hSw=>?_,hK _ ?_⟩; (focus ((try dsimp only at hSw);go_simp;try with_reducible rfl))) | (rw [if_neg (ne_true_of_eq_false (by rfl))];refine hK _ ?_));clear hK K;simp only [Act.put,zqA,zqP,zqQ])
   refine zB ?_;go_wp2_with fail;refine (hUn.out _ _ z6).mono ?_;rintro en w3 ⟨rfl,hs3⟩;clear hs2;go_wp2_with fail;refine (hTell.out _ rfl _ rfl _ _ z6).mono ?_;rintro en w4 ⟨rfl,hs4⟩;clear hs3;go_wp2_with fail;refine (hWake.out _ ?_ ?_ ?_ _ _ z6).mono ?_
   ·exact z01 _ _ _ _
   ·exact z3V _ _ _ _
   ·exact hlt.out _ rfl
   rintro en w5 ⟨rfl,hs5⟩;go_wp2_with fail;go_ret;exact ⟨rfl,z3⟩
 ·have hx : K.post c who s = K:=by unfold Kn.post;exact if_pos he
  have hl0 : (K.sm s).2 = [] ∧ (K.sm s).1 = 255:=by
   unfold Kn.postE postE at he
   repeat' split at he
   all_goals first | exact absurd rfl he | (rename_i g1 g2;exact ⟨Classical.not_not.1 g1,g2⟩)
  have he7 : Go.Proofs.YthcfimbidmogkaaGreatDoor.postE (K.sm s).1 (K.sm s).2 = 7:=by unfold postE;rw [if_neg (show ¬ (K.sm s).2 ≠ [] by simp [hl0.1]),if_pos hl0.2]
  have hpt : z7s K.L.now (K.sm s).2 = 255:=by unfold z7s;rw [if_neg (show ¬ (K.sm s).2 ≠ [] by simp [hl0.1])]
  have hsame : K.wSm (upd K.sm s (z1Z (K.sm s).1 (K.sm s).2,z2I K.L.now (K.sm s).2)) = K:=by
   have e1 : (z1Z (K.sm s).1 (K.sm s).2,z2I K.L.now (K.sm s).2) = K.sm s:=by
    unfold z1Z z2I;rw [if_neg (show ¬ (K.sm s).2 ≠ [] by simp [hl0.1]),if_neg (show ¬ (K.sm s).2 ≠ [] by simp [hl0.1]),if_pos hl0.2]
   rw [e1,z10];rfl
  rw [hsame] at hPost;have hee : K.postE s = 7:=he7;rw [hx,hee];clear hx hl0 hsame he h hok hl hw hee
  go_enter Tryz.func82,Tryz.ntmps82
  go_wp2_with fail;refine z9 (w0:=w0) ?_;intro wx hsx;clear hs;refine zj (fun w'=>w'.cell? ⟨b,544,none⟩ = some (x.sa.v c.sems.length) ∧ w'.cell? ⟨x.sa.b,x.sa.o + s,none⟩ = some (.pointer (some ⟨x.sb s,0,none⟩)) ∧ w'.cell? ⟨b,543,none⟩ = some (.pointer (some ⟨x.lk,0,none⟩))) [(0,true),(1,true),(2,true),(3,true),(4,true),(5,true),(6,true),(7,true),(8,true),(9,true),(10,true),(11,false),(12,false),(13,true),(14,true),(15,true),(16,true),(17,true)] (by kernel_rfl) (by kernel_rfl) (fun _ _ _ _ h=>h) ⟨z4,z4,z4⟩ ?_
  iterate 11 (refine zf (fun K hK=>?_);simp only [zqS,zqZ]; (first | (rw [if_pos (by rfl)];apply Exists.intro;refine ⟨fun w hSw=>?_,hK _ ?_⟩; (focus ((try dsimp only at hSw);go_simp;try with_reducible rfl))) | (rw [if_neg (ne_true_of_eq_false (by rfl))];refine hK _ ?_));clear hK K;simp only [Act.put,zqA,zqP,zqQ])
  refine ze (fun K hK=>?_);simp only [zqS,zqZ];rw [if_pos (by rfl)];go_wp2_with fail;refine (hLev.out _ _ z6).mono ?_;rintro en w1 ⟨lv,rfl,hs1⟩;obtain ⟨la,lc,rfl⟩:=hs1.slice_form;clear hsx;go_wp2_with fail;refine ⟨⟨z4,z4,z4⟩,?_⟩;refine ze (fun K hK=>?_);simp only [zqS,zqZ];rw [if_pos (by rfl)];go_wp2_with fail;refine (hPost.out _ _ _ own rd).mono ?_;rintro en w2 ⟨rfl,hs2⟩;clear hs1;go_wp2_with fail;refine ⟨⟨z4,z4,z4⟩,?_⟩
  iterate 5 (refine zf (fun K hK=>?_);simp only [zqS,zqZ]; (first | (rw [if_pos (by rfl)];apply Exists.intro;refine ⟨fun w hSw=>?_,hK _ ?_⟩; (focus ((try dsimp only at hSw);go_simp;try with_reducible rfl))) | (rw [if_neg (ne_true_of_eq_false (by rfl))];refine hK _ ?_));clear hK K;simp only [Act.put,zqA,zqP,zqQ])
  refine zB ?_;go_wp2_with fail;go_ret;exact ⟨rfl,z3⟩
end Go.Proofs.YthcfimbidmogkaaGreatDoor
