/-
  Parts of the proof: SameC.
-/
import Derived.Test.YtlbjjoeocdimfaaGreatDoorKD14
set_option linter.unusedVariables false
set_option linter.unusedSimpArgs false
set_option maxHeartbeats 32000000
set_option maxRecDepth 100000
namespace Go.Proofs.YtlbjjoeocdimfaaGreatDoor
open Go.RowKit Go.Sx Go.Dl Go.Lk Go.Rq Go.Au
def zj0 (w:World) (v:Value) (l:List (Ts×List Int)):Prop:=∃ ts:List Tr,RdR w v ts∧ts.map Tr.s=l.map Prod.fst∧∀ i,i<l.length→RdN .u32 w (.slice (ts.getD i tr0).a (ts.getD i tr0).n (ts.getD i tr0).c) (l.getD i (ts0,[])).2
theorem zj0.later {w0 w:World} {v:Value} {l:List (Ts×List Int)} {P:HP} (h:zj0 w0 v l) (hs:Sat w0 w P):zj0 w v l:=by
 obtain ⟨ts,h1,h2,h3⟩:=h;exact ⟨ts,h1.later hs,h2,fun i hi=>(h3 i hi).later hs⟩
abbrev zod (s:Ts) (v:Value):List Value:=[.int .i64 s.st,.int .i64 s.lev,.int .i64 s.on,.int .i64 s.late,.int .u32 s.job,.int .i64 s.at_,.int .u32 s.rg.r0,.int .u32 s.rg.r1,.int .u32 s.rg.r2,.int .u32 s.rg.r3,.int .u32 s.rg.r4,.int .u32 s.rg.r5,.int .u32 s.rg.r6,.int .u32 s.rg.r7,v]
theorem zj0.form {w:World} {v:Value} {l:List (Ts×List Int)} (h:zj0 w v l):∃ a c b off,v=.slice a l.length c∧l.length≤9223372036854775807∧(l≠[]→a=some ⟨b,off,none⟩) ∧
  ∀ k,k<l.length→∃ ra rn rc,(∀ j u,(zod (l.getD k (ts0,[])).1 (.slice ra rn rc))[j]?=some u→w.cell? ⟨b,off+k*15+j,none⟩=some u)∧RdN .u32 w (.slice ra rn rc) (l.getD k (ts0,[])).2:=by
 obtain ⟨ts,⟨a,cap,b,off,rfl,hcap,hbig,ha,hc⟩,h2,h3⟩:=h;have hl:ts.length=l.length:=by have:=congrArg List.length h2;simpa using this
 refine ⟨a,cap,b,off,by rw [hl],by unfold maxLen at hbig;omega,fun hne=>ha (fun e=>hne (List.eq_nil_of_length_eq_zero (by rw [← hl,e];rfl))),fun k hk=>?_⟩;refine ⟨(ts.getD k tr0).a,(ts.getD k tr0).n,(ts.getD k tr0).c,fun j u hj=>?_,h3 k hk⟩;have e1:(ts.getD k tr0).s=(l.getD k (ts0,[])).1:=by
  have e:=congrArg (fun x=>x.getD k ts0) h2
  simpa [List.getD,hk,show k<ts.length by omega] using e
 have hj15:j<15:=(List.getElem?_eq_some_iff.1 hj).1;rw [Nat.add_assoc];refine hc _ _ ?_;rw [z0Y (l:=ts) (k:=k) (c:=j) (by omega) hj15];rw [← e1] at hj;exact hj
structure zjC (w:World) (v:Value) (s:Sn):Prop where
 out:∃ y:Sv,v=.agg (stL s y).toArray∧RdN .u32 w y.im s.imem∧z8J .u32 w y.mm s.mems∧zj0 w y.tt s.tasks∧z8J .i64 w y.rr s.ready∧RdN .i64 w y.oo s.owners∧z8J .i64 w y.ll s.lockers∧RdN .i64 w y.ss s.sems∧z8J .i64 w y.kk s.takers∧z8J .u32 w y.qq s.queues∧z8J .i64 w y.sd s.senders∧z8J .i64 w y.rc s.receivers∧RdR w y.dd s.dues
theorem zjC.later {w0 w:World} {v:Value} {s:Sn} {P:HP} (h:zjC w0 v s) (hs:Sat w0 w P):zjC w v s:=by
 obtain ⟨y,e,a1,a2,a3,a4,a5,a6,a7,a8,a9,a10,a11,a12⟩:=h.out;exact ⟨y,e,a1.later hs,a2.later hs,a3.later hs,a4.later hs,a5.later hs,a6.later hs,a7.later hs,a8.later hs,a9.later hs,a10.later hs,a11.later hs,a12.later hs⟩
theorem z4r {κ:IntKind} {w:World} {v:Value} {l:List Int} (h:RdN κ w v l):∃ a c,v=.slice a l.length c:=by
 obtain ⟨a,c,b,off,e,_⟩:=h;exact ⟨a,c,e⟩
theorem zcc {α:Type} {sz:Nat} [E:Enc α sz] {w:World} {v:Value} {l:List α} (h:RdR w v l):∃ a c,v=.slice a l.length c:=by
 obtain ⟨a,c,b,off,e,_⟩:=h;exact ⟨a,c,e⟩
end Go.Proofs.YtlbjjoeocdimfaaGreatDoor
