/-
  Parts of the proof: VmN VmO Sep Law LawB Auto.
-/
import Derived.Scope
import Derived.Deep.LoopGhost
import Derived.WalkKit
import Derived.ArgAppend
import Derived.Deep.Draws
import Derived.Laws.IdiomCopy
import Derived.Deep.QuietTactic
import Derived.Test.YtkeommmigopnkaaGreatDoorKF1
set_option linter.unusedVariables false
set_option linter.unusedSimpArgs false
set_option maxHeartbeats 32000000
set_option maxRecDepth 100000
namespace Go.Vm
open Go.RowKit
noncomputable section
theorem ready_spec {ops:Array Oper} {L:Array Bool} {i:Nat} (hn:L.size=ops.size) (h:i∈Region.ready .any ops L):i<ops.size∧L[i]?=some false∧∃ o,ops[i]?=some o∧∀ e∈o.after.toList,Region.binds .any e=true→L[e.on]?=some true:=by
 unfold Region.ready at h;rw [List.mem_filter] at h;obtain ⟨h1,h2⟩:=h;have hi:i<ops.size:=by simpa using h1
 rw [Bool.and_eq_true] at h2;obtain ⟨h2,h3⟩:=h2;have hL:L[i]?=some false:=by
  rw [Array.getD_eq_getD_getElem?,Array.getElem?_eq_getElem (by omega)] at h2;rw [Array.getElem?_eq_getElem (by omega)]
  simpa using h2
 refine ⟨hi,hL,ops[i],Array.getElem?_eq_getElem hi,fun e he hb=>?_⟩;rw [Array.getElem?_eq_getElem hi] at h3;simp only [Option.map_some,Option.getD_some] at h3;rw [← Array.all_toList] at h3;have h4:=List.all_eq_true.1 h3 e he;rw [hb] at h4;have h5:L.getD e.on false=true:=by simpa using h4
 rw [Array.getD_eq_getD_getElem?] at h5
 cases hx:L[e.on]? with
 | none=>rw [hx] at h5;cases h5
 | some x=>rw [hx] at h5;simp only [Option.getD_some] at h5;rw [h5]
theorem ready_ne {ops:Array Oper} {L:Array Bool} (hn:L.size=ops.size) (hE:okE ops.toList 0=true) (hr:Region.ready .any ops L=[]):∀ i,i<ops.size→L[i]?=some true:=by
 intro i
 induction i using Nat.strongRecOn with
 | _ i ih =>
  intro hi
  cases hx:L[i]? with
  | none=>rw [Array.getElem?_eq_none_iff] at hx;omega
  | some x =>
   cases x with
   | true=>rfl
   | false =>
    have:i∈Region.ready .any ops L:=by
     unfold Region.ready;rw [List.mem_filter];refine ⟨by simpa using hi,?_⟩;rw [Bool.and_eq_true];refine ⟨by rw [Array.getD_eq_getD_getElem?,hx];rfl,?_⟩;rw [Array.getElem?_eq_getElem hi];simp only [Option.map_some,Option.getD_some];rw [← Array.all_toList];refine List.all_eq_true.2 fun e he=>?_
     cases hb:Region.binds .any e with
     | false=>rfl
     | true =>
      have hlt:=okE_spec _ 0 hE i ops[i] (by simp) e he hb;have:=ih e.on (by omega) (by omega);rw [Array.getD_eq_getD_getElem?,this];rfl
    rw [hr] at this;cases this
section
variable {P:Program} {cl:Cl} {w0:World} {ρ0:Rho} {M00:Mem} {W:List (Nat×Nat)} {A:List Nat} {S:List St} {G sz base:Nat} {tv0 tv':T Value} {all:List Value} {Ns:List Mem} {N0:Mem} {ops:Array Oper} {Q:Exit→Act→World→Prop}
structure Data (P:Program) (cl:Cl) (w0:World) (W:List (Nat×Nat)) (A:List Nat) (S:List St) (G sz base:Nat) (tv0:T Value) (all:List Value) (Ns:List Mem) (N0:Mem) (ops:Array Oper):Prop where
 hW:W=wrs ops.toList 0
 uq:uniq W=true
 len:S.length=ops.size
 oE:okE ops.toList 0=true
 o1:∀ (i:Nat) (s:St),S[i]?=some s→ops[i]?=some s.o
 o2:∀ (i:Nat) (s:St),S[i]?=some s→s.cl=clsOf W ops.toList s.o
 oA:∀ (i:Nat) (s:St),S[i]?=some s→A[i]?=some s.an
 lA:A.length=S.length
 lt:∀ (i:Nat) (s:St),S[i]?=some s→∀ j,s.an.testBit j=true→j<i
 an:∀ (i:Nat) (s:St),S[i]?=some s→∀ j,s.an.testBit j=true→∃ e∈s.o.after.toList,Region.binds .any e=true∧(j=e.on∨∃ t,S[e.on]?=some t∧t.an.testBit j=true)
 ch:∀ (i:Nat) (s:St),S[i]?=some s→s.cl=2→s.rk=0∨∃ (u:Nat) (t:St),S[u]?=some t∧t.cl=2∧t.rk+1=s.rk∧s.an.testBit u=true
 rk:∀ (i j:Nat) (s t:St),S[i]?=some s→S[j]?=some t→s.cl=2→t.cl=2→s.rk=t.rk→i=j
 al:all.length=S.length
 st:∀ (i:Nat) (s:St),S[i]?=some s→∃ v M M' rv,stepV P cl ops (opvD W A s.an i rv i G tv0) (opvA W ops.toList s.an G tv0) (base+i) s M=some (v,M')∧rv.length=i∧(∃ q,all=q++rv)∧nth all i=some v∧nth Ns s.rk=some M∧(s.cl=2→nth Ns (s.rk+1)=some M')
 wn:∀ (i:Nat) (s:St),S[i]?=some s→s.cl=1→gd ops (opvD W A s.an i all S.length G tv0) s.o=some false∨∃ v,nth all i=some v∧∀ (k:Nat) (M:Mem),nth Ns k=some M→k=s.rk∨excl i s.an k (wl S 0)=true∨evR P (opvD W A s.an i all S.length G tv0) M s.o=some v
 ds:∀ (i:Nat) (s:St) (d:Nat),S[i]?=some s→s.o.dst=some d→d<sz
 h0:∀ (i:Nat) (s:St),S[i]?=some s→s.cl=3→∀ v cs,evA P (opvA W ops.toList s.an G tv0) (base+i) s.o=some (v,cs)→∀ y,N0.bs.get (base+i)=some y→y=.cells cs.length (wr .e 0 cs)
theorem Grow.fill {ρ ρ1:Rho} {M0 M:Mem} {b:Nat} {x:Nat×Nat×Nat} (g:Grow ρ M0 ρ1 M) (hb:M0.nx≤b):Grow ρ M0 (upd ρ1 b x) M :=
 ⟨fun j hj=>by unfold upd;rw [if_neg (by omega)];exact g.ext j hj,g.nx,g.keep⟩
theorem step_wp (D:Data P cl w0 W A S G sz base tv0 all Ns N0 ops) (hcl:Fits P w0 G cl) (hbase:M00.nx≤base) {ρ:Rho} {k:Nat} {N:Mem} {L:Array Bool} {a:Act} {w:World}
  (h:Inv w0 ρ0 M00 W S G sz base tv0 all Ns N0 ρ k N L a w) {i:Nat} (hi:i∈Region.ready .any ops L) :
  wpOp P ops Q i (fun a' w'=>∃ ρ' k' N',Inv w0 ρ0 M00 W S G sz base tv0 all Ns N0 ρ' k' N' (L.setIfInBounds i true) a' w') a w:=by
 obtain ⟨hi1,hi2,o,ho,hdep⟩:=ready_spec (by rw [h.size,D.len]) hi;obtain ⟨s,hs⟩:∃ s,S[i]?=some s:=⟨S[i]'(by rw [D.len];exact hi1),List.getElem?_eq_getElem _⟩;have hos:=D.o1 i s hs;rw [ho] at hos
 cases hos
 have hnl:L[i]?≠some true:=by rw [hi2];simp
 have hb:∀ j,s.an.testBit j=true→L[j]?=some true:=fun j hj=>by
  obtain ⟨e,e1,e2,e3⟩:=D.an i s hs j hj;have e4:=hdep e e1 e2
  rcases e3 with rfl | ⟨t,e5,e6⟩
  ·exact e4
  ·exact h.C e.on t e4 e5 j e6
 have hopsS:∀ (i:Nat) (o:Oper),ops[i]?=some o→∃ s,S[i]?=some s∧s.o=o:=fun j o hj=>by
  have hlt:=(Array.getElem?_eq_some_iff.1 hj).1;refine ⟨S[j]'(by rw [D.len];exact hlt),List.getElem?_eq_getElem _,?_⟩;have:=D.o1 j _ (List.getElem?_eq_getElem (show j<S.length by rw [D.len];exact hlt));rw [hj] at this;cases this;rfl
 obtain ⟨het,he⟩:=h.ev D.hW hopsS D.al D.oA D.lA hnl hb;obtain ⟨v,M,M',rv,st1,st2,⟨q,st3⟩,st4,st5,st6⟩:=D.st i s hs;have hle:∀ x u,opvD W A s.an i rv i G tv0 x=some u→opvD W A s.an i all S.length G tv0 x=some u:=fun x u e=>by
  have:=opvD_le (q:=q) (n:=S.length) (L:=L) st2 (by rw [← st3];exact D.al) (D.lt i s hs) e;rw [← st3] at this;exact this
 have he1:∀ x u,opvD W A s.an i rv i G tv0 x=some u→VR ρ u (a.eval x):=fun x u e=>he x u (hle x u e);have hsame:∀ (hc:s.cl≠2) {v':Value},VR ρ v v'→Inv w0 ρ0 M00 W S G sz base tv0 all Ns N0 ρ k N (L.setIfInBounds i true) (a.put s.o.dst v') w:=fun hc v' hv' =>
  h.next D.hW D.uq D.o1 hs hb hnl (fun d hd=>D.ds i s d hs hd) st4 h.at_ h.mr h.gr h.nx (Sub.refl ρ) hv' (fun j t ht hct=>by
   rw [← h.K j t ht hct];refine ⟨fun e=>e.resolve_left ?_,.inr⟩;rintro rfl;rw [hs] at ht;cases ht;exact hc hct) (fun j t ht hct _ hj=>⟨(h.ho j t ht hct hj).1,fun y hy=>hy⟩)
 have hturn:s.cl=2→s.rk=k:=fun hc=>by
  have h1:¬ s.rk<k:=fun e=>hnl ((h.K i s hs hc).2 e)
  rcases D.ch i s hs hc with e | ⟨u,t,e1,e2,e3,e4⟩
  ·omega
  ·have:=(h.K u t e1 e2).1 (hb u e4);omega
 have hKn:∀ (hc:s.cl=2) (j:Nat) (t:St),S[j]?=some t→t.cl=2→((j=i∨L[j]?=some true)↔t.rk<k+1):=fun hc j t ht hct=>by
  have hk:=hturn hc
  constructor
  ·rintro (rfl | e)
   ·rw [hs] at ht;cases ht;omega
   ·have:=(h.K j t ht hct).1 e;omega
  ·intro e
   by_cases e2:t.rk=k
   ·exact .inl (D.rk j i t s ht hs hct hc (by omega))
   ·exact .inr ((h.K j t ht hct).2 (by omega))
 unfold wpOp;rw [ho];dsimp only;unfold stepV at st1
 split at st1
 ·cases st1
 ·rename_i hg
  have hw:Region.wanted s.o (yielded ops a.tmps)=false:=gd_wanted (fun d u e=>het d u (hle _ _ e)) hg;rw [hw];simp only [Bool.false_eq_true,if_false]
  split at st1
  ·cases st1
  ·cases st1
   by_cases hc:s.cl=2
   ·have hk:=hturn hc;rw [hk] at st6;have e1:=st6 hc;rw [hk,h.at_] at st5
    cases st5
    exact ⟨ρ,k+1,N,h.next D.hW D.uq D.o1 hs hb hnl (fun d hd=>D.ds i s d hs hd) st4 e1 h.mr h.gr h.nx (Sub.refl ρ) .undef (hKn hc) (fun j t ht hct _ hj=>⟨(h.ho j t ht hct hj).1,fun y hy=>hy⟩)⟩
   ·exact ⟨ρ,k,N,hsame hc .undef⟩
 ·rename_i hg
  have hw:Region.wanted s.o (yielded ops a.tmps)=true:=gd_wanted (fun d u e=>het d u (hle _ _ e)) hg;rw [hw];simp only [if_true];refine .inl ?_
  split at st1
  ·rename_i hc
   split at st1
   ·rename_i u hu
    cases st1
    obtain ⟨v',r1,r2⟩:=evP_run he1 hu;exact upon_gives (.inl (r2 w)) ⟨ρ,k,N,hsame (by omega) r1⟩
   ·cases st1
  ·rename_i hc
   split at st1
   ·rename_i u hu
    cases st1
    by_cases hkr:k=s.rk
    ·rw [← hkr,h.at_] at st5
     cases st5
     obtain ⟨v',r1,r2⟩:=evR_run h.mr he1 hu;exact upon_gives (.inl r2) ⟨ρ,k,_,hsame (by omega) r1⟩
    rcases D.wn i s hs hc with hg2 | ⟨v2,g1,g2⟩
    ·have:=gd_wanted (b:=false) (a:=a) (fun d u e=>het d u e) hg2;rw [hw] at this;cases this
    ·rw [g1] at st4
     cases st4
     rcases g2 k N h.at_ with hx | hx | hx
     ·exact absurd hx hkr
     ·exfalso
      obtain ⟨u,t,x1,x2,x3⟩:=excl_spec _ _ _ _ hx
      rcases x3 with ⟨x3,x4⟩ | ⟨x3,x4⟩
      ·have:=(h.K u t x1 x2).1 (hb u x3);omega
      ·exact hnl (h.C u t ((h.K u t x1 x2).2 x4) x1 i x3)
     ·obtain ⟨v',r1,r2⟩:=evR_run h.mr he hx;exact upon_gives (.inl r2) ⟨ρ,k,N,hsame (by omega) r1⟩
   ·cases st1
  ·rename_i hc
   have hk:=hturn hc;have e1:=st6 hc;rw [hk] at e1;rw [hk,h.at_] at st5
   cases st5
   refine evOW_wp h.mr hcl h.glob he1 st1 fun ρ' v' w' g1 g2 g3=>?_;refine ⟨ρ',k+1,M',h.next D.hW D.uq D.o1 hs hb hnl (fun d hd=>D.ds i s d hs hd) st4 e1 g2 (h.gr.trans g1) (Nat.le_trans h.nx g1.nx) (h.mr.sub g1) g3 (hKn hc) fun j t ht hct _ hj=>?_⟩;obtain ⟨b1,b2⟩:=h.ho j t ht hct hj;have hlt:base+j<N.nx:=by have:=h.nx;have:=(List.getElem?_eq_some_iff.1 ht).1;omega
   exact ⟨by rw [g1.ext _ hlt];exact b1,fun y hy=>g1.keep _ y hlt b1 hy⟩
  ·rename_i hc
   split at st1
   ·rename_i u cs hu
    cases st1
    obtain ⟨b1,b2⟩:=h.ho i s hs hc hnl;have hlt:base+i<N.nx:=by have:=h.nx;have:=(List.getElem?_eq_some_iff.1 hs).1;omega
    have f2:∀ x u,opvA W ops.toList s.an G tv0 x=some u→VR ρ u (a.eval x):=fun x u e=>by
     cases x with
     | tmp t =>
      unfold opvA at e;dsimp only at e
      split at e
      ·rename_i hl
       refine he (.tmp t) u ?_;unfold opvD;dsimp only;rw [hl];exact e
      ·rename_i j hl
       split at e
       ·rename_i hbit
        split at e
        ·rename_i y hmv
         split at e
         ·rename_i hfy
          have hLj:=hb j (by rw [← tb_eq];exact hbit);have hl2:=hl;rw [D.hW] at hl2;obtain ⟨j',oj,c1,c2,c3⟩:=lk_wrs _ _ _ _ hl2;rw [Nat.zero_add] at c1;subst c1;obtain ⟨sj,d1,d2⟩:=hopsS j oj (by simpa using c2);obtain ⟨x1,x1',y1,y2,y3⟩:=h.t1 j sj t d1 hLj (by rw [d2];exact c3);obtain ⟨vj,Mj,Mj',rvj,z1,_,_,yz4,_,_⟩:=D.st j sj d1;rw [yz4] at y1
          cases y1
          have hu2:u=x1:=by
           unfold mv at hmv;rw [c2] at hmv;dsimp only at hmv
           split at hmv
           ·rename_i y' ho1 ho2
            cases hmv
            have hclj:=D.o2 j sj d1;rw [d2] at hclj;unfold clsOf at hclj;rw [ho1,ho2] at hclj;have hclj:sj.cl=0:=hclj;unfold stepV gd at z1;rw [d2,ho2,hclj] at z1;dsimp only at z1;unfold evP at z1;rw [ho1] at z1;dsimp only at z1;have hyy:opvD W A sj.an j rvj j G tv0 y=opv G tv0 y:=by
             cases y with
             | tmp t' =>
              unfold free at hfy;unfold opvD;dsimp only at hfy ⊢
              cases hq:lk t' W with
              | none=>rfl
              | some _=>rw [hq] at hfy;cases hfy
             | _=>rfl
            rw [hyy,e] at z1
            cases z1;rfl
           ·cases hmv
          subst hu2;show VR ρ u (a.tmps.getD t undef);rw [show a.tmps.getD t undef=x1' by rw [Array.getD_eq_getD_getElem?,y2];rfl];exact y3
         ·cases e
        ·cases e
       ·cases e
     | const v=>exact he (.const v) u e
     | global g=>exact he (.global g) u e
     | func f=>exact he (.func f) u e
    have f1:=hu;obtain ⟨v',w',x,r1,r2,r3⟩:=evA_run h.mr f2 f1 b1 hlt (fun y hy=>D.h0 i s hs hc v cs hu y (b2 y hy));refine upon_gives r1 ⟨_,k,N,h.next D.hW D.uq D.o1 hs hb hnl (fun d hd=>D.ds i s d hs hd) st4 h.at_ r2 (h.gr.fill (by omega)) h.nx (upd_sub b1) r3 (fun j t ht hct=>?_) fun j t ht hct hji hj=>?_⟩
    ·rw [← h.K j t ht hct];refine ⟨fun e=>e.resolve_left ?_,.inr⟩;rintro rfl;rw [hs] at ht;cases ht;omega
    ·refine ⟨?_,fun y hy=>hy⟩;unfold upd;rw [if_neg (by omega)];exact (h.ho j t ht hct hj).1
   ·cases st1
  ·cases st1
theorem sts_rk (W:List (Nat×Nat)) (Z:List Oper):∀ (os:List Oper) (qs:List Nat) (r:Nat),(∀ (i:Nat) (s:St),(sts W Z os qs r)[i]?=some s→r≤s.rk)∧∀ (i j:Nat) (s t:St),i<j→(sts W Z os qs r)[i]?=some s→(sts W Z os qs r)[j]?=some t→s.cl=2→s.rk<t.rk
 | [],_,_=>by simp [sts]
 | _::_,[],_=>by simp [sts]
 | o::os,a::qs,r=>by
  have e0:sts W Z (o::os) (a::qs) r=⟨o,a,clsOf W Z o,r⟩::sts W Z os qs (match Nat.beq (clsOf W Z o) 2 with
   | true=>r+1
   | false=>r):=rfl
  rw [e0];obtain ⟨h1,h2⟩:=sts_rk W Z os qs (match Nat.beq (clsOf W Z o) 2 with
   | true=>r+1
   | false=>r)
  have hr:r≤(match Nat.beq (clsOf W Z o) 2 with
   | true=>r+1
   | false=>r):=by
   cases Nat.beq (clsOf W Z o) 2
   ·exact Nat.le_refl r
   ·exact Nat.le_succ r
  refine ⟨fun i s h=>?_,fun i j s t hij hs ht hc=>?_⟩
  ·cases i with
   | zero=>simp only [List.getElem?_cons_zero,Option.some.injEq] at h;subst h;exact Nat.le_refl _
   | succ i=>exact Nat.le_trans hr (h1 i s (by simpa using h))
  ·cases j with
   | zero=>omega
   | succ j =>
    cases i with
    | zero =>
     simp only [List.getElem?_cons_zero,Option.some.injEq] at hs;subst hs;have:=h1 j t (by simpa using ht);dsimp only at hc ⊢;rw [hc] at this;exact this
    | succ i=>exact h2 i j s t (by omega) (by simpa using hs) (by simpa using ht) hc
theorem nth_some {α:Type} {l:List α} {k:Nat} {x:α} (h:nth l k=some x):k<l.length∧l[l.length-1-k]?=some x:=by
 unfold nth at h
 split at h
 ·rename_i hb;exact ⟨blt_lt hb,h⟩
 ·cases h
theorem any_wp (D:Data P cl w0 W A S G sz base tv0 all Ns N0 ops) (hcl:Fits P w0 G cl) (hbase:M00.nx≤base)
  (hend:∀ (ρ:Rho) k N L a w,Inv w0 ρ0 M00 W S G sz base tv0 all Ns N0 ρ k N L a w→(∀ i,i<ops.size→L[i]?=some true)→Q .normal a w) :
  ∀ (fuel:Nat) (L:Array Bool) (a:Act) (w:World),((List.range ops.size).filter fun i=>L[i]? != some true).length≤fuel→(∃ (ρ:Rho) (k:Nat) (N:Mem),Inv w0 ρ0 M00 W S G sz base tv0 all Ns N0 ρ k N L a w)→wpAny P .any ops Q fuel L a w
 | 0,L,a,w,hf,⟨ρ,k,N,h⟩=>by
  have hall:∀ i,i<ops.size→L[i]?=some true:=fun i hi=>by
   have hnil:=List.eq_nil_of_length_eq_zero (Nat.le_zero.1 hf);have:=List.filter_eq_nil_iff.1 hnil i (by simpa using hi)
   simpa using this
  refine ⟨?_,hend ρ k N L a w h hall⟩;refine List.eq_nil_iff_forall_not_mem.2 fun i hi=>?_;obtain ⟨h1,h2,_⟩:=ready_spec (by rw [h.size,D.len]) hi;rw [hall i h1] at h2;cases h2
 | fuel+1,L,a,w,hf,⟨ρ,k,N,h⟩=>by
  refine ⟨fun hr=>hend ρ k N L a w h (ready_ne (by rw [h.size,D.len]) D.oE hr),fun i hi=>?_⟩;obtain ⟨h1,h2,_⟩:=ready_spec (by rw [h.size,D.len]) hi;refine wpOp_mono (fun a' w' h'=>any_wp D hcl hbase hend fuel _ a' w' ?_ h') (step_wp D hcl hbase h hi);have hlt:i<L.size:=by rw [h.size,D.len];exact h1
  have e:((List.range ops.size).filter fun j=>(L.setIfInBounds i true)[j]? != some true)=((List.range ops.size).filter fun j=>L[j]? != some true).filter fun j=>j != i:=by
   rw [List.filter_filter];refine List.filter_congr fun j _=>?_;have:=L_set (j:=j) hlt
   by_cases hji:j=i
   ·subst hji;simp [hlt]
   ·rw [Array.getElem?_setIfInBounds_ne (Ne.symm hji)];simp [hji]
  rw [e];have hm:i∈(List.range ops.size).filter fun j=>L[j]? != some true:=by
   rw [List.mem_filter];exact ⟨by simpa using h1,by rw [h2];simp⟩
  have:(((List.range ops.size).filter fun j=>L[j]? != some true).filter fun j=>j != i).length<((List.range ops.size).filter fun j=>L[j]? != some true).length:=by
   refine List.length_filter_lt_length_iff_exists.2 ⟨i,hm,by simp⟩
  omega
theorem evDraw_wp {ρ:Rho} {M M':Mem} {a:Act} {w:World} {id:Nat} (hcl:Fits P w0 G cl) (hmix:P.follows .mixedOrders=true) (h:evDraw P cl G sz ops tv0 M=some (tv',M')) (hT:TR G ρ sz tv0 a) (hM:MR w0 ρ M w)
  (k:∀ ρ' a' w',Grow ρ M ρ' M'→MR w0 ρ' M' w'→TR G ρ' sz tv' a'→Q .normal a' w'):(Code.region id ops true).wp P Q a w:=by
 unfold evDraw at h
 split at h
 ·cases h
 ·rename_i W A S hlay
  split at h
  ·cases h
  ·rename_i M0 hh
   split at h
   ·rename_i all Mm ns hp
    split at h
    ·rename_i tv1 hwin hput
     cases h
     unfold layOf at hlay;dsimp only at hlay
     split at hlay
     ·rename_i huq
      split at hlay
      ·rename_i hck
       simp only [Option.some.injEq,Lay.mk.injEq] at hlay;obtain ⟨hW,hA,hS⟩:=hlay;rw [hW] at hS huq hck;rw [hS] at hck;simp only [Bool.and_eq_true] at hck;obtain ⟨⟨hch,hlen⟩,hoE⟩:=hck;have hlen:S.length=ops.size:=by have:=Nat.eq_of_beq_eq_true hlen;simpa using this
       obtain ⟨ar,ar1,ar2,ar3⟩:=ancs_spec ops.toList [];have hsp:∀ (i:Nat) (s:St),S[i]?=some s→ops.toList[i]?=some s.o∧(ancs ops.toList [])[i]?=some s.an∧s.cl=clsOf W ops.toList s.o:=fun i s hs=>by
        rw [← hS] at hs;exact sts_spec W _ _ _ _ i s hs
       obtain ⟨⟨pp,p1,p2⟩,⟨qq,q1⟩,hst,hKK⟩:=pass_spec (P:=P) (cl:=cl) (ops:=ops) (W:=W) (A:=A) (G:=G) (tv0:=tv0) (base:=M.nx) ops.toList ops.toList (ancs ops.toList []) 0 0 [] [M0] all (M'::ns) (by rw [hS];exact hp) rfl rfl;rw [hS] at p2 hst hKK;obtain ⟨hh1,hh2⟩:=hoist_spec S 0 _ _ hh;have hN0:nth (M'::ns) 0=some M0:=by rw [q1,nth_app (by simp)];rfl
       have hal:all.length=S.length:=by rw [p1];simp [p2]
       obtain ⟨pa1,pa2⟩:=putAll_spec S 0 tv0 tv' hput;have hfresh:∀ u,ρ (M.nx+u)=none:=fun u=>hM.fresh _ (by omega);have hanA:∀ (i:Nat) (s:St),S[i]?=some s→∀ j,s.an.testBit j=true→∃ e∈s.o.after.toList,Region.binds .any e=true∧(j=e.on∨∃ t,S[e.on]?=some t∧t.an.testBit j=true):=fun i s hs j hj=>by
        obtain ⟨b1,b2,_⟩:=hsp i s hs;have b3:=ar3 i s.o b1 j (by rw [ar1] at b2;simp only [List.nil_append,List.length_nil,Nat.zero_add] at b2 ⊢;rw [b2];exact hj);obtain ⟨e,e1,e2,e3⟩:=b3;refine ⟨e,e1,e2,e3.imp (fun x=>x) fun e4=>?_⟩;simp only [List.nil_append] at e4;have hlt:e.on<S.length:=by
         refine Nat.lt_of_not_le fun hge=>?_;rw [List.getElem?_eq_none (by rw [ar2];simp;omega)] at e4;simp at e4
        refine ⟨S[e.on],List.getElem?_eq_getElem hlt,?_⟩;have:=(hsp e.on _ (List.getElem?_eq_getElem hlt)).2.1;rw [ar1,List.nil_append] at this;rw [this] at e4;exact e4
       have hltA:∀ (i:Nat) (s:St),S[i]?=some s→∀ j,s.an.testBit j=true→j<i:=by
        intro i
        induction i using Nat.strongRecOn with
        | _ i ih =>
         intro s hs j hj;obtain ⟨e,e1,e2,e3⟩:=hanA i s hs j hj;have he:=okE_spec _ 0 hoE i s.o (hsp i s hs).1 e e1 e2
         rcases e3 with rfl | ⟨t,e4,e5⟩
         ·omega
         ·have:=ih e.on (by omega) t e4 j e5;omega
       have D:Data P cl w0 W A S G sz M.nx tv0 all (M'::ns) M0 ops:=by
        refine ⟨hW.symm,huq,hlen,hoE,fun i s hs=>by simpa using (hsp i s hs).1,fun i s hs=>(hsp i s hs).2.2,fun i s hs=>by rw [← hA];exact (hsp i s hs).2.1,by rw [← hA,ar1,hlen];simp [ar2],hltA,hanA,fun i s hs hc=>?_,fun i j s t hs ht hc1 hc2 hrk=>?_,hal,fun i s hs=>?_,fun i s hs hc=>?_,fun i s d hs hd=>pa1 i s d hs hd,fun i s hs hc v cs he y hy=>?_⟩
        ·rw [← hS] at hs hch ⊢;obtain ⟨_,k2⟩:=chain_spec W _ _ _ 0 0 none hch i s hs hc
         rcases k2 with ⟨k2,_⟩ | ⟨u,t,k2,k3,k4,k5⟩
         ·exact .inl k2
         ·exact .inr ⟨u,t,k2,k3,k4,by rw [Nat.zero_add] at k5;exact k5⟩
        ·rw [← hS] at hs ht;have hr:=(sts_rk W ops.toList ops.toList (ancs ops.toList []) 0).2
         rcases Nat.lt_trichotomy i j with g | g | g
         ·have:=hr i j s t g hs ht hc1;omega
         ·exact g
         ·have:=hr j i t s g ht hs hc2;omega
        ·obtain ⟨_,v,N,N',rv',x1,x2,⟨q,x3⟩,x4,x5,x6,_⟩:=hst i s hs;rw [Nat.zero_add] at x1 x2 x4;exact ⟨v,N,N',rv',x1,x2,⟨q++[v],by rw [x3];simp⟩,x4,x5,x6⟩
        ·have hi:i<all.length:=by rw [hal];exact (List.getElem?_eq_some_iff.1 hs).1
         have hwn:wl S 0=[]∨win P ops W A G tv0 (wl S 0) all S.length (M'::ns).reverse S 0=true:=by
          unfold win0 at hwin
          split at hwin
          ·rename_i e;exact .inl e
          ·exact .inr hwin
         rcases hwn with hnil | hwin
         ·obtain ⟨_,v,N,N',rv',x1,x2,⟨q,x3⟩,x4,x5,x6,_⟩:=hst i s hs;rw [Nat.zero_add] at x4;refine .inr ⟨v,x4,fun k N1 hk=>.inl ?_⟩;obtain ⟨n1,n2⟩:=nth_some hk;obtain ⟨n3,_⟩:=nth_some x5;have h0:∀ k,0<k→k<(M'::ns).length→False:=fun k h1 h2=>by
           obtain ⟨u,t,b1,b2,_⟩:=hKK k h1 h2;exact wl_nil S 0 hnil u t b1 b2
          rcases Nat.eq_zero_or_pos k with e1 | e1
          ·rcases Nat.eq_zero_or_pos s.rk with e2 | e2
           ·omega
           ·exact (h0 _ e2 n3).elim
          ·exact (h0 _ e1 n1).elim
         rcases win_spec S 0 hwin i s hs hc with g | ⟨v,g1,g2⟩
         ·rw [Nat.zero_add] at g;exact .inl g
         ·refine .inr ⟨v,by rw [nth_lt hi,hal];rw [Nat.zero_add] at g1;exact g1,fun k N hk=>?_⟩;obtain ⟨n1,n2⟩:=nth_some hk;have:=g2 k N (by rw [List.getElem?_reverse n1];exact n2);simp only [Nat.zero_add] at this;exact this
        ·rcases hh2 _ y hy with ⟨u,s',v',cs',b1,b2,b3,b4,b5⟩ | ⟨_,hno⟩
         ·have:u=i:=by omega
          subst this;rw [hs] at b1;cases b1;rw [he] at b4;cases b4;exact b5
         ·exact absurd (by omega) (hno i s hs hc)
       have hg0:Grow ρ M ρ M0:=⟨fun _ _=>rfl,by rw [hh1];exact Nat.le_add_right _ _,fun b y hb _ hy=>by
        rcases hh2 b y hy with ⟨u,_,_,_,_,_,b3,_⟩ | ⟨hy,_⟩
        ·omega
        ·exact hy⟩
       refine wp_region_any hmix (any_wp (ρ0:=ρ) (M00:=M) (Q:=Q) D hcl (Nat.le_refl _) ?_ ops.size _ a _ ?_ ⟨ρ,0,M0,?_⟩)
       ·intro ρ' kk N L a' w' hI hall;obtain ⟨n1,n2⟩:=nth_some hI.at_;have hkk:kk=ns.length:=by
         simp only [List.length_cons] at n1
         rcases Nat.lt_or_ge kk ns.length with g | g
         ·exfalso
          obtain ⟨u,s,b1,b2,b3⟩:=hKK (kk+1) (by omega) (by simp;omega);have:=(hI.K u s b1 b2).1 (hall u (by rw [← hlen];exact (List.getElem?_eq_some_iff.1 b1).1));omega
         ·omega
        have hN:N=M':=by
         have:=hI.at_;rw [hkk,nth_cons] at this
         cases this;rfl
        subst hN;refine k ρ' a' w' hI.gr hI.mr ⟨hI.defers,hI.tsz,fun t v e=>?_,hI.glob⟩
        rcases pa2 t v e with ⟨u,s,b1,b2,b3⟩ | ⟨b1,b2⟩
        ·have hi:=(List.getElem?_eq_some_iff.1 b1).1;obtain ⟨v1,v',c1,c2,c3⟩:=hI.t1 u s t b1 (hall u (by omega)) b2;rw [nth_lt (by omega),hal] at c1;rw [Nat.zero_add,c1] at b3
         cases b3
         exact ⟨v',c2,c3⟩
        ·refine hI.t2 t v b1 fun j hl=>?_
         ·skip
          rw [← hW] at hl;obtain ⟨i,o,c1,c2,c3⟩:=lk_wrs _ _ _ _ hl;have hi:i<S.length:=by rw [hlen];have:=(List.getElem?_eq_some_iff.1 c2).1;simpa using this
          have c4:=(hsp i _ (List.getElem?_eq_getElem hi)).1;rw [c2] at c4;simp only [Option.some.injEq] at c4;exact absurd (by rw [← c4];exact c3) (b2 i _ (List.getElem?_eq_getElem hi))
       ·exact Nat.le_trans (List.length_filter_le _ _) (by simp)
       ·have hmr:MR w0 ρ M0 { w with drawn:=w.drawn+1 }:=hoist_MR S 0 _ _ hh hfresh ((hM.raise (Nat.le_add_right _ _)).same rfl rfl rfl rfl);have hfl:∀ (i:Nat),(Array.replicate ops.size false)[i]?≠some true:=fun i=>by
         rw [Array.getElem?_replicate];split<;>simp
        refine ⟨by simp [hlen],fun i s hi _=>absurd hi (hfl i),hN0,hmr,hg0,by rw [hh1];exact Nat.le_refl _,fun i s _ _=>⟨fun e=>absurd e (hfl i),fun e=>by omega⟩,fun i s _ _ _=>⟨hfresh i,fun y hy=>hy⟩,hT.defers,hT.size,hT.glob,fun i s d _ hi _=>absurd hi (hfl i),fun t v e _=>hT.tmp t v e⟩
      ·cases hlay
     ·cases hlay
    ·cases h
   ·cases h
end
end
noncomputable section
inductive Ex where
 | n
 | x (id:Nat)
 | r
def Ex.to:Ex→Exit
 | .n=>.normal
 | .x id=>.exit id
 | .r=>.ret
abbrev Cd:=Code→T Value→Mem→Option (Ex×T Value×Mem)
def stepCode (P:Program) (cl:Cl) (G sz:Nat) (ih:Cd) (c:Code) (tv:T Value) (M:Mem):Option (Ex×T Value×Mem) :=
 match c with
 | .skip=>some (.n,tv,M)
 | .label _=>some (.n,tv,M)
 | .region _ ops draw=>match draw with
  | false=>match evOps P cl G sz ops ops.toList tv M with
   | some (tv',M')=>some (.n,tv',M')
   | none=>none
  | true=>match evDraw P cl G sz ops tv M with
   | some (tv',M')=>some (.n,tv',M')
   | none=>none
 | .seq a b=>match ih a tv M with
  | some (.n,tv',M')=>ih b tv' M'
  | r=>r
 | .cond c a b=>match opv G tv c with
  | some (.bool true)=>ih a tv M
  | some (.bool false)=>ih b tv M
  | _=>none
 | .block id b=>match ih b tv M with
  | some (.x i,tv',M')=>match Nat.beq i id with
   | true=>some (.n,tv',M')
   | false=>some (.x i,tv',M')
  | r=>r
 | .loop b=>match ih b tv M with
  | some (.n,tv',M')=>ih (.loop b) tv' M'
  | r=>r
 | .exit id=>some (.x id,tv,M)
 | .scope b=>ih b tv M
 | .ret=>some (.r,tv,M)
 | _=>none
def evCode (P:Program) (cl:Cl) (G sz:Nat) (f:Nat):Cd :=
 Nat.rec (motive:=fun _=>Cd) (fun _ _ _=>none) (fun _ ih=>stepCode P cl G sz ih) f
section
variable {P:Program} {cl:Cl} {G sz:Nat} {w0:World}
theorem evCode_wp (hcl:Fits P w0 G cl) (hmix:P.follows .mixedOrders=true):∀ (f:Nat) (c:Code) (tv:T Value) (M:Mem) (e:Ex) (tv':T Value) (M':Mem),evCode P cl G sz f c tv M=some (e,tv',M') →
  ∀ (ρ:Rho) (a:Act) (w:World) (Q:Exit→Act→World→Prop),TR G ρ sz tv a→MR w0 ρ M w→(∀ ρ' a' w',Grow ρ M ρ' M'→MR w0 ρ' M' w'→TR G ρ' sz tv' a'→Q e.to a' w')→c.wp P Q a w:=by
 intro f
 induction f using Nat.strongRecOn with
 | _ f0 ih0 =>
 cases f0 with
 | zero=>intro c tv M e tv' M' h;cases h
 | succ f =>
  have ih:=ih0 f (Nat.lt_succ_self f);intro c tv M e tv' M' h ρ a w Q hT hM k
  change stepCode P cl G sz (evCode P cl G sz f) c tv M=some (e,tv',M') at h
  unfold stepCode at h
  split at h
  ·cases h;exact wp_skip (k ρ a w (Grow.refl _ _) hM hT)
  ·cases h;exact wp_label (k ρ a w (Grow.refl _ _) hM hT)
  ·rename_i id ops draw
   split at h
   ·split at h
    ·rename_i tv1 M1 hr
     cases h
     refine wp_region (evOps_wp hcl ops.toList (List.range ops.size) tv M ρ a w tv' M' ?_ hr hT hM k);apply List.ext_getElem?;intro i;simp only [List.getElem?_map]
     by_cases hi:i<ops.size
     ·simp [hi]
     ·simp [hi]
    ·cases h
   ·split at h
    ·rename_i tv1 M1 hr
     cases h
     exact evDraw_wp hcl hmix hr hT hM k
    ·cases h
  ·rename_i x y
   split at h
   ·rename_i tv1 M1 h1
    refine wp_seq (ih x tv M .n tv1 M1 h1 ρ a w _ hT hM fun ρ1 a1 w1 g1 m1 t1=>?_);exact ih y tv1 M1 e tv' M' h ρ1 a1 w1 Q t1 m1 fun ρ2 a2 w2 g2 m2 t2=>k ρ2 a2 w2 (g1.trans g2) m2 t2
   ·rename_i r hr
    refine wp_seq (ih x tv M e tv' M' h ρ a w _ hT hM fun ρ1 a1 w1 g1 m1 t1=>?_);have:=k ρ1 a1 w1 g1 m1 t1
    cases e with
    | n=>exact absurd h (hr tv' M')
    | x id=>exact this
    | r=>exact this
  ·rename_i c x y
   split at h
   ·rename_i hc
    have:=(hT.ev _ _ hc).bool_inv;exact wp_cond_true this (ih x tv M e tv' M' h ρ a w Q hT hM k)
   ·rename_i hc
    have:=(hT.ev _ _ hc).bool_inv;exact wp_cond_false this (ih y tv M e tv' M' h ρ a w Q hT hM k)
   ·cases h
  ·rename_i id b
   split at h
   ·rename_i i tv1 M1 h1
    split at h
    ·rename_i hb
     cases h
     have hb:=Nat.eq_of_beq_eq_true hb;refine wp_block (ih b tv M (.x i) tv' M' h1 ρ a w _ hT hM fun ρ1 a1 w1 g1 m1 t1=>?_);show Exit.inBlock id Q (.exit i) a1 w1;simp only [Exit.inBlock,hb,if_true];exact k ρ1 a1 w1 g1 m1 t1
    ·rename_i hb
     cases h
     refine wp_block (ih b tv M (.x i) tv' M' h1 ρ a w _ hT hM fun ρ1 a1 w1 g1 m1 t1=>?_);show Exit.inBlock id Q (.exit i) a1 w1;have hne:¬ i=id:=fun e=>by rw [e,show Nat.beq id id=true from Nat.beq_refl id] at hb;cases hb
     simp only [Exit.inBlock,hne,if_false];exact k ρ1 a1 w1 g1 m1 t1
   ·rename_i r hr
    refine wp_block (ih b tv M e tv' M' h ρ a w _ hT hM fun ρ1 a1 w1 g1 m1 t1=>?_);have:=k ρ1 a1 w1 g1 m1 t1
    cases e with
    | n=>exact this
    | x id=>exact absurd h (hr id tv' M')
    | r=>exact this
  ·rename_i b
   let I:Nat→Act→World→Prop:=fun n a w=>n≤f+1∧∃ ρ1 tv1 M1,Grow ρ M ρ1 M1∧TR G ρ1 sz tv1 a∧MR w0 ρ1 M1 w∧evCode P cl G sz n (.loop b) tv1 M1=some (e,tv',M')
   refine wp_loop_ghost I (f+1) ⟨Nat.le_refl _,ρ,tv,M,Grow.refl _ _,hT,hM,by exact h⟩ ?_;rintro n a1 w1 ⟨hn,ρ1,tv1,M1,g1,t1,m1,h1⟩
   cases n with
   | zero=>cases h1
   | succ n =>
    change stepCode P cl G sz (evCode P cl G sz n) (.loop b) tv1 M1=some (e,tv',M') at h1
    unfold stepCode at h1;dsimp only at h1;have ihn:=ih0 n (by omega)
    split at h1
    ·rename_i tv2 M2 h2
     refine ihn b tv1 M1 .n tv2 M2 h2 ρ1 a1 w1 _ t1 m1 fun ρ2 a2 w2 g2 m2 t2=>?_;exact ⟨n,by omega,by omega,ρ2,tv2,M2,g1.trans g2,t2,m2,h1⟩
    ·rename_i r hr
     refine ihn b tv1 M1 e tv' M' h1 ρ1 a1 w1 _ t1 m1 fun ρ2 a2 w2 g2 m2 t2=>?_;have:=k ρ2 a2 w2 (g1.trans g2) m2 t2
     cases e with
     | n=>exact absurd h1 (hr tv' M')
     | x id=>exact this
     | r=>exact this
  ·cases h;exact wp_exit (k ρ a w (Grow.refl _ _) hM hT)
  ·rename_i b
   refine wp_scope_straight (ih b tv M e tv' M' h ρ a w _ hT hM fun ρ1 a1 w1 g1 m1 t1=>?_);have:=k ρ1 a1 w1 g1 m1 t1
   cases e<;>exact this
  ·cases h;exact wp_ret (k ρ a w (Grow.refl _ _) hM hT)
  ·cases h
end
def evLd (P:Program) (M:Mem) (t:TypeId) (p:Value):Option Value :=
 match p with
 | .pointer (some ⟨b,off,none⟩)=>match isAggT P t,szOf P t with
  | some true,some n=>match M.ld b off n with
   | some l=>some (.agg l.toArray)
   | none=>none
  | some false,_=>match M.ld b off 1 with
   | some [v]=>some v
   | _=>none
  | _,_=>none
 | _=>none
def is1:Value→Bool
 | .tuple _=>false
 | _=>true
def evRes (P:Program) (tv:T Value) (M:Mem):List ResultVar→Option (List Value)
 | []=>some []
 | .tmp t::l=>match tv.get t,evRes P tv M l with
  | some v,some r=>match is1 v with
   | true=>some (v::r)
   | false=>none
  | _,_=>none
 | .cell a t::l=>match tv.get a with
  | some p=>match evLd P M t p,evRes P tv M l with
   | some v,some r=>some (v::r)
   | _,_=>none
  | none=>none
def pack:List Value→Value
 | [v]=>v
 | l=>.tuple l.toArray
def initT:List Value→Nat→T Value→T Value
 | [],_,t=>t
 | v::l,i,t=>initT l (i+1) (t.set FU i v)
def stepCall (P:Program) (G F:Nat) (ih:Cl) (f:FuncId) (args:List Value) (M:Mem):Option (Value×Mem) :=
 match P.funcs[f]? with
 | none=>none
 | some fn=>match fn.body with
  | none=>none
  | some c=>match evCode P ih G (args.length+(fn.ntmps-args.length)) F c (initT args 0 .e) M with
   | some (.n,tv,M')=>match evRes P tv M' fn.results.toList with
    | some l=>some (pack l,M')
    | none=>none
   | some (.r,tv,M')=>match evRes P tv M' fn.results.toList with
    | some l=>some (pack l,M')
    | none=>none
   | _=>none
def evCall (P:Program) (G F:Nat) (n:Nat):Cl :=
 Nat.rec (motive:=fun _=>Cl) (fun _ _ _=>none) (fun _ ih=>stepCall P G F ih) n
section
variable {P:Program} {G sz F:Nat} {w0:World} {ρ:Rho}
theorem evLd_run {M:Mem} {w:World} (hM:MR w0 ρ M w) {t:TypeId} {p p' v:Value} (hp:VR ρ p p') (h:evLd P M t p=some v):∃ v',V1 ρ v v'∧(do loadVar t (← asAddr p'):Sem Value).run P w=.ok v' w:=by
 unfold evLd at h
 split at h
 ·rename_i b off
  obtain ⟨B,O,N,e1,rfl⟩:=hp.ptr_inv
  split at h
  ·rename_i n ha hs
   split at h
   ·rename_i l hl
    cases h
    obtain ⟨l',a1,a2,a3⟩:=hM.ld hl e1;refine ⟨.agg l'.toArray,.agg (by simpa using a1),?_⟩;have hr:=run_loadCells_list (P:=P) w ⟨B,O+off,none⟩ l' (fun j v e=>by rw [Addr.add_lit];exact a3 j v e);rw [a2] at hr;simp [asAddr,loadVar,run_isAggT ha,run_szOf hs,hr]
   ·cases h
  ·rename_i ha
   split at h
   ·rename_i u hl
    cases h
    obtain ⟨l',a1,a2,a3⟩:=hM.ld hl e1
    cases a1 with
    | @cons _ v' _ _ r t' =>
     have:=a3 0 v' rfl;refine ⟨v',.sc r,?_⟩;simp only [Nat.add_zero] at this;simp [asAddr,loadVar,run_isAggT ha,this]
   ·cases h
  ·cases h
 ·cases h
theorem VR.is1 {v v':Value} (h:VR ρ v v') (e:is1 v=true):V1 ρ v v':=by
 cases h with
 | one h=>exact h
 | tup h=>cases e
theorem evRes_run {M:Mem} {w:World} {tv:T Value} {a:Act} (hM:MR w0 ρ M w) (hT:TR G ρ sz tv a):∀ (l:List ResultVar) (r:List Value),evRes P tv M l=some r→∃ r',LR (V1 ρ) r r'∧(l.mapM (m:=Sem) fun
  | .tmp t=>pure (a.tmps.getD t undef)
  | .cell x t=>do loadVar t (← asAddr (a.tmps.getD x undef))).run P w=.ok r' w
 | [],r,h=>by cases h;exact ⟨[],.nil,rfl⟩
 | .tmp t::l,r,h=>by
  unfold evRes at h
  split at h
  ·rename_i v r1 h1 h2
   split at h
   ·rename_i hi
    cases h
    obtain ⟨r',b1,b2⟩:=evRes_run hM hT l r1 h2;obtain ⟨v',c1,c2⟩:=hT.tmp t v h1;have hg:a.tmps.getD t undef=v':=by rw [Array.getD_eq_getD_getElem?,c1];rfl
    refine ⟨v'::r',.cons (c2.is1 hi) b1,?_⟩;rw [List.mapM_cons];dsimp only;rw [hg,Sem.run_bind];show Result.andThen (.ok v' w) _=_;simp only [Result.andThen_ok,Sem.run_bind,b2]
    rfl
   ·cases h
  ·cases h
 | .cell x t::l,r,h=>by
  unfold evRes at h
  split at h
  ·rename_i p hp
   split at h
   ·rename_i v r1 h1 h2
    cases h
    obtain ⟨r',b1,b2⟩:=evRes_run hM hT l r1 h2;obtain ⟨p',c1,c2⟩:=hT.tmp x p hp;have hg:a.tmps.getD x undef=p':=by rw [Array.getD_eq_getD_getElem?,c1];rfl
    obtain ⟨v',d1,d2⟩:=evLd_run hM c2 h1;refine ⟨v'::r',.cons d1 b1,?_⟩;rw [List.mapM_cons];dsimp only;rw [hg,Sem.run_bind,d2];simp only [Result.andThen_ok,Sem.run_bind,b2]
    rfl
   ·cases h
  ·cases h
theorem results_run {M:Mem} {w:World} {tv:T Value} {a:Act} {fn:Func} {l:List Value} (hM:MR w0 ρ M w) (hT:TR G ρ sz tv a) (h:evRes P tv M fn.results.toList=some l):∃ v',VR ρ (pack l) v'∧(results fn a.tmps).run P w=.ok v' w:=by
 obtain ⟨r',b1,b2⟩:=evRes_run (P:=P) hM hT _ _ h;have hr:(results fn a.tmps).run P w=.ok (if h:r'.toArray.size=1 then r'.toArray[0] else .tuple r'.toArray) w:=by
  unfold results;rw [Sem.run_bind,Array.mapM_eq_mapM_toList];have:((List.toArray <$> fn.results.toList.mapM (m:=Sem) fun
   | .tmp t=>pure (a.tmps.getD t undef)
   | .cell x t=>do loadVar t (← asAddr (a.tmps.getD x undef)))).run P w=.ok r'.toArray w:=by
   simp only [Sem.run_map,b2];rfl
  exact (congrArg (fun z=>Result.andThen z _) this).trans rfl
 refine ⟨_,?_,hr⟩
 cases b1 with
 | nil=>exact .tup .nil
 | cons g t=>cases t with
  | nil=>exact .one g
  | cons g2 t2=>exact .tup (.cons g (.cons g2 t2))
theorem initT_spec:∀ (l:List Value) (i:Nat) (t:T Value) (j:Nat) (v:Value),(initT l i t).get j=some v→(∃ u,j=i+u∧l[u]?=some v)∨t.get j=some v
 | [],_,_,_,_,h=>.inr h
 | x::l,i,t,j,v,h=>by
  rcases initT_spec l (i+1) _ j v h with ⟨u,e1,e2⟩ | h
  ·exact .inl ⟨u+1,by omega,by simpa using e2⟩
  ·rcases T.get_set _ _ _ _ _ _ h with ⟨rfl,rfl⟩ | ⟨_,h⟩
   ·exact .inl ⟨0,rfl,rfl⟩
   ·exact .inr h
theorem evCall_fits (hmix:P.follows .mixedOrders=true):∀ n,Fits P w0 G (evCall P G F n)
 | 0=>fun _ _ _ _ _ h=>by cases h
 | n+1=>by
  intro f args M v M' h ρ w args' hgl hM hargs
  change stepCall P G F (evCall P G F n) f args M=some (v,M') at h
  unfold stepCall at h
  split at h
  ·cases h
  ·rename_i fn hfn
   split at h
   ·cases h
   ·rename_i c hc
    have hlen:args.length=args'.size:=by rw [hargs.len];simp
    have hT0:TR G ρ (args.length+(fn.ntmps-args.length)) (initT args 0 .e) { tmps:=args'++Array.replicate (fn.ntmps-args'.size) undef,defers:=[] }:=by
     refine ⟨rfl,by simp [hlen],fun t u e=>?_,hgl⟩
     rcases initT_spec _ _ _ _ _ e with ⟨j,e1,e2⟩ | e
     ·rw [Nat.zero_add] at e1;subst e1;obtain ⟨u',a1,a2⟩:=hargs.get e2;refine ⟨u',?_,a2⟩;have hlt:=(List.getElem?_eq_some_iff.1 e2).1;rw [Array.getElem?_append_left (by omega)]
      simpa using a1
     ·rw [T.get_e] at e;cases e
    refine calls_of_wp hfn hc ?_;have fin:∀ {e:Ex} {tv:T Value} {M1:Mem} {l:List Value},evCode P (evCall P G F n) G (args.length+(fn.ntmps-args.length)) F c (initT args 0 .e) M=some (e,tv,M1)→(e=.n∨e=.r)→evRes P tv M1 fn.results.toList=some l →
      c.wp P (bodyPost P fn fun e w'=>∃ v',e=.returned v'∧∃ ρ',Grow ρ M ρ' M1∧MR w0 ρ' M1 w'∧VR ρ' (pack l) v') { tmps:=args'++Array.replicate (fn.ntmps-args'.size) undef,defers:=[] } w:=fun {e tv M1 l} h1 he h2=>by
     refine evCode_wp (evCall_fits hmix n) hmix F c _ _ _ _ _ h1 ρ _ w _ hT0 hM fun ρ' a' w' g m t=>?_;obtain ⟨v',r1,r2⟩:=results_run (P:=P) (fn:=fn) m t h2
     rcases he with rfl | rfl
     ·exact ⟨t.defers,v',r2,v',rfl,ρ',g,m,r1⟩
     ·exact ⟨t.defers,v',r2,v',rfl,ρ',g,m,r1⟩
    split at h
    ·rename_i tv M1 h1
     split at h
     ·rename_i l h2
      cases h
      exact fin h1 (.inl rfl) h2
     ·cases h
    ·rename_i tv M1 h1
     split at h
     ·rename_i l h2
      cases h
      exact fin h1 (.inr rfl) h2
     ·cases h
    ·cases h
def yes (P:Program) (G F n:Nat) (M:Mem) (f:FuncId) (args:List Value):Bool :=
 match evCall P G F n f args M with
 | some (.bool true,_)=>true
 | _=>false
theorem MR.start (w:World) (G N:Nat) (tab:List Value) (hG:G<w.heap.size) (hp:all1 tab=true) (ht:∀ (j:Nat) (v:Value),tab[j]?=some v→w.cell? ⟨G,j,none⟩=some v) :
  MR w (fun b=>if b=G then some (G,0,N) else none) ⟨(T.e:T Blk).set FU G (.ro tab.length (wr .e 0 tab)),G+1⟩ w:=by
 have inv:∀ {b x},(if b=G then some (G,0,N) else none)=some x→b=G∧x=(G,0,N):=fun {b x} e=>by
  split at e
  ·rename_i h;exact ⟨h,(Option.some.inj e).symm⟩
  ·cases e
 have gt:∀ {j y},((T.e:T Blk).set FU G (.ro tab.length (wr .e 0 tab))).get j=some y→y=.ro tab.length (wr .e 0 tab):=fun {j y} e=>by
  rcases T.get_set _ _ _ _ _ _ e with ⟨_,e⟩ | ⟨_,e⟩
  ·exact e
  ·rw [T.get_e] at e;cases e
 refine ⟨Below.refl _ _,fun b hb=>if_neg (by dsimp only at hb;omega),?_,?_,?_,?_,?_,?_,?_⟩
 ·intro b n t B O N' g e;cases gt g
 ·intro b n t B O N' g e;obtain ⟨rfl,e2⟩:=inv e
  cases e2
  have:=gt g
  injection this with e3 e4
  subst e3 e4;refine ⟨hG,fun j v hj hv=>?_⟩
  rcases get_wr _ _ _ _ _ hv with ⟨i,e1,e2⟩ | ⟨_,e2⟩
  ·rw [Nat.zero_add] at e1;subst e1;exact ⟨all1_mem hp v (List.mem_of_getElem? e2),by rw [Nat.zero_add];exact ht _ _ e2⟩
  ·rw [T.get_e] at e2;cases e2
 ·intro b es c B O N' g e;cases gt g
 ·intro b m s k p B O N' g e;cases gt g
 ·intro b1 n1 t1 b2 n2 t2 B O1 N1 O2 N2 j1 j2 g1 _ _ _ _ _ _;cases gt g1
 ·intro b1 x1 b2 x2 B O1 N1 O2 N2 g1 g2 k1 _ _ _;rw [gt g1] at k1
  rcases k1 with ⟨_,_,e⟩ | ⟨_,_,_,_,e⟩<;>cases e
 ·intro b B O N' e;obtain ⟨_,e2⟩:=inv e
  cases e2;exact hG
theorem yes_calls (hmix:P.follows .mixedOrders=true) {F n f G:Nat} {tab:List Value} {w:World} (hG:G<w.heap.size) (hp:all1 tab=true) (ht:∀ (j:Nat) (v:Value),tab[j]?=some v→w.cell? ⟨G,j,none⟩=some v)
  (h:yes P G F n ⟨(T.e:T Blk).set FU G (.ro tab.length (wr .e 0 tab)),G+1⟩ f []=true):Calls P f #[] w fun e w'=>e=.returned (.bool true)∧Below w.heap.size w w':=by
 unfold yes at h
 split at h
 ·rename_i M' he
  refine (evCall_fits (w0:=w) hmix n f [] _ _ _ he _ w #[] ⟨0,if_pos rfl⟩ (MR.start w G 0 tab hG hp ht) .nil).mono ?_;rintro e w' ⟨v',rfl,ρ',g,m,r⟩;exact ⟨by rw [r.bool_inv],m.below⟩
 ·cases h
end
end
end Go.Vm
namespace Go.Sx
open Go.RowKit
theorem hid {p:Prop} (h:p):Hid p:=h
inductive Slot where
 | cell (v:Value)
 | map (es:Array MapEntry) (clock:Nat)
def Hp:Type:=Nat→Nat→Option Slot
def HP:Type:=Hp→Prop
theorem HP.same {P Q:HP} (h:∀ x,P x↔Q x):P=Q:=funext fun x=>propext (h x)
def emp:HP:=fun h=>∀ b o,h b o=none
def star (P Q:HP):HP:=fun h=>∃ h1 h2:Hp,(∀ b o,h1 b o=none∨h2 b o=none)∧(∀ b o,h b o=(h1 b o).or (h2 b o))∧P h1∧Q h2
instance:Mul HP:=⟨star⟩
theorem star_comm (P Q:HP):P*Q=Q*P:=by
 have key:∀ P Q:HP, ∀ h,star P Q h→star Q P h:=fun P Q h ⟨h1,h2,hd,hu,p,q⟩ =>
  ⟨h2,h1,fun b o=>(hd b o).symm,fun b o=>by rw [hu];rcases hd b o with e | e<;>simp [e],q,p⟩
 exact HP.same fun h=>⟨key P Q h,key Q P h⟩
theorem star_assoc (P Q R:HP):P*Q*R=P*(Q*R):=by
 refine HP.same fun h=>⟨?_,?_⟩
 ·rintro ⟨h12,h3,hd,hu,⟨h1,h2,hd',hu',p,q⟩,r⟩;refine ⟨h1,fun b o=>(h2 b o).or (h3 b o),fun b o=>?_,fun b o=>?_,p,h2,h3,fun b o=>?_,fun _ _=>rfl,q,r⟩
  ·have:=hd b o;have:=hu' b o;have:=hd' b o
   cases e1:h1 b o<;>cases e2:h2 b o<;>cases e3:h3 b o<;>simp_all
  ·rw [hu,hu',Option.or_assoc]
  ·have:=hd b o;have:=hu' b o;have:=hd' b o
   cases e1:h1 b o<;>cases e2:h2 b o<;>cases e3:h3 b o<;>simp_all
 ·rintro ⟨h1,h23,hd,hu,p,h2,h3,hd',hu',q,r⟩;refine ⟨fun b o=>(h1 b o).or (h2 b o),h3,fun b o=>?_,fun b o=>?_,⟨h1,h2,fun b o=>?_,fun _ _=>rfl,p,q⟩,r⟩
  ·have:=hd b o;have:=hu' b o;have:=hd' b o
   cases e1:h1 b o<;>cases e2:h2 b o<;>cases e3:h3 b o<;>simp_all
  ·rw [hu,hu',Option.or_assoc]
  ·have:=hd b o;have:=hu' b o;have:=hd' b o
   cases e1:h1 b o<;>cases e2:h2 b o<;>cases e3:h3 b o<;>simp_all
instance : Std.Associative (α:=HP) (· * ·):=⟨star_assoc⟩
instance : Std.Commutative (α:=HP) (· * ·):=⟨star_comm⟩
theorem emp_star (P:HP):emp*P=P:=by
 refine HP.same fun h=>⟨?_,fun p=>⟨fun _ _=>none,h,fun _ _=>.inl rfl,fun _ _=>rfl,fun _ _=>rfl,p⟩⟩;rintro ⟨h1,h2,_,hu,e,p⟩;have:h=h2:=funext fun b=>funext fun o=>by rw [hu,e];rfl
 rwa [this]
theorem star_emp (P:HP):P*emp=P:=by rw [star_comm,emp_star]
def ptz (b o:Nat) (xs:List Slot):HP:=fun h=>∀ b' o',h b' o'=if b'=b∧o≤o' then xs[o'-o]? else none
theorem ptz_nil (b o:Nat):ptz b o []=emp:=HP.same fun h=>by simp [ptz,emp]
theorem ptz_append (b o:Nat) (xs ys:List Slot):ptz b o (xs++ys)=ptz b o xs*ptz b (o+xs.length) ys:=by
 refine HP.same fun h=>⟨fun p=>?_,?_⟩
 ·refine ⟨fun b' o'=>if b'=b∧o≤o' then xs[o'-o]? else none,fun b' o'=>if b'=b∧o+xs.length≤o' then ys[o'-(o+xs.length)]? else none,fun b' o'=>?_,fun b' o'=>?_,fun _ _=>rfl,fun _ _=>rfl⟩
  ·by_cases hb:b'=b
   ·by_cases h1:o+xs.length≤o'
    ·left;simp only [hb,true_and];split
     ·exact List.getElem?_eq_none (by omega)
     ·rfl
    ·right;simp [h1]
   ·left;simp [hb]
  ·rw [p]
   by_cases hb:b'=b
   ·subst hb
    by_cases h0:o≤o'
    ·by_cases h1:o+xs.length≤o'
     ·simp only [true_and,h0,h1,if_true];rw [List.getElem?_append_right (by omega),List.getElem?_eq_none (l:=xs) (by omega),Option.none_or]
      congr 1;omega
     ·simp only [true_and,h0,h1,if_true,if_false];rw [List.getElem?_append_left (by omega),Option.or_none]
    ·simp only [true_and,h0,if_false];rw [if_neg (by omega)];rfl
   ·simp [hb]
 ·rintro ⟨h1,h2,_,hu,p1,p2⟩ b' o';rw [hu,p1,p2]
  by_cases hb:b'=b
  ·subst hb
   by_cases h0:o≤o'
   ·by_cases h1:o+xs.length≤o'
    ·simp only [true_and,h0,h1,if_true];rw [List.getElem?_append_right (by omega),List.getElem?_eq_none (l:=xs) (by omega),Option.none_or]
     congr 1;omega
    ·simp only [true_and,h0,h1,if_true,if_false];rw [List.getElem?_append_left (by omega),Option.or_none]
   ·simp only [true_and,h0,if_false];rw [if_neg (by omega)];rfl
  ·simp [hb]
def pts (b o:Nat) (xs:List Value):HP:=ptz b o (xs.map Slot.cell)
theorem pts_nil (b o:Nat):pts b o []=emp:=ptz_nil b o
theorem pts_append (b o:Nat) (xs ys:List Value):pts b o (xs++ys)=pts b o xs*pts b (o+xs.length) ys:=by
 have h:=ptz_append b o (xs.map Slot.cell) (ys.map Slot.cell);rw [List.length_map] at h;unfold pts;rw [List.map_append];exact h
theorem pts_cons (b o:Nat) (x:Value) (xs:List Value):pts b o (x::xs)=pts b o [x]*pts b (o+1) xs:=pts_append b o [x] xs
def ex {α:Type} (f:α→HP):HP:=fun h=>∃ a,f a h
def pur (p:Prop):HP:=fun h=>p∧∀ b o,h b o=none
def Has (w:World) (b o:Nat):Slot→Prop
 | .cell v=>w.cell? ⟨b,o,none⟩=some v∧w.frozen? ⟨b,o,none⟩=false
 | .map es c=>o=0∧w.heap[b]?=some (.map es c)
theorem Has.lt {w:World} {b o:Nat} {x:Slot} (h:Has w b o x):b<w.heap.size:=by
 cases x with
 | cell v=>exact World.block_lt_of_cell? w _ h.1
 | map es c=>exact (Array.getElem?_eq_some_iff.1 h.2).1
theorem Has.same {w w':World} {b o:Nat} {x:Slot} (h:Has w b o x) (hh:w'.heap=w.heap):Has w' b o x:=by
 cases x with
 | cell v=>unfold Has World.cell? World.frozen? at *;rw [hh];exact h
 | map es c=>unfold Has at *;rw [hh];exact h
theorem Has.set {w:World} {b o g p:Nat} {x:Slot} (h:Has w b o x) (v:Value) (hne:¬ (b=g∧o=p)):Has (w.setCell ⟨g,p,none⟩ v) b o x:=by
 cases x with
 | cell u=>exact ⟨by rw [World.cell?_setCell_other _ _ _ _ (by intro e;simp only [Addr.mk.injEq] at e;exact hne ⟨e.1.symm,e.2.1.symm⟩)];exact h.1,by rw [World.frozen?_setCell];exact h.2⟩
 | map es c =>
  refine ⟨h.1,?_⟩;have e:=h.2;unfold World.setCell
  by_cases hg:g=b
  ·subst hg;simp [Array.getElem?_modify,e]
  ·simp [Array.getElem?_modify,hg,e]
theorem Has.alloc {w:World} {b o:Nat} {x:Slot} (h:Has w b o x) (ob:Obj):Has (w.alloc ob) b o x:=by
 have hl:=h.lt
 cases x with
 | cell v=>exact ⟨by rw [World.cell?_alloc_old _ _ _ (by simp;omega)];exact h.1,by rw [World.frozen?_alloc_old _ _ _ (by simp;omega)];exact h.2⟩
 | map es c =>
  refine ⟨h.1,?_⟩;have e:=h.2;unfold World.alloc;rw [← e];exact Array.getElem?_push_lt hl ▸ (by simp [hl])
theorem Has.below {w w':World} {b o:Nat} {x:Slot} (h:Has w b o x) (hb:Below w.heap.size w w'):Has w' b o x:=by
 have hl:=h.lt
 cases x with
 | cell v=>exact ⟨(hb.cell (p:=⟨b,o,none⟩) hl).trans h.1,(hb.frozen (p:=⟨b,o,none⟩) hl).trans h.2⟩
 | map es c=>exact ⟨h.1,(hb.block b hl).trans h.2⟩
class Sat (w0:outParam World) (w:World) (P:outParam HP):Prop where
 below:Below w0.heap.size w0 w
 own:∃ h:Hp,P h∧∀ b o v,h b o=some v→w0.heap.size≤b∧Has w b o v
section
variable {w0 w:World} {P Q F:HP} {b o:Nat} {xs:List Value}
theorem Sat.perm (hs:Sat w0 w P) (e:P=Q):Sat w0 w Q:=e ▸ hs
theorem Sat.wk (hs:Sat w0 w (P*F)) (e:∀ h,P h→Q h):Sat w0 w (Q*F) :=
 ⟨hs.below,let ⟨h,⟨h1,h2,hd,hu,p,f⟩,k⟩:=hs.own; ⟨h,⟨h1,h2,hd,hu,e _ p,f⟩,k⟩⟩
theorem Sat.start (w:World):Sat w w emp:=⟨Below.refl _ _,fun _ _=>none,fun _ _=>rfl,fun _ _ _ h=>by cases h⟩
theorem Sat.drop (hs:Sat w0 w (P*F)):Sat w0 w F:=by
 obtain ⟨h,⟨h1,h2,hd,hu,p,f⟩,k⟩:=hs.own;refine ⟨hs.below,h2,f,fun b o v hv=>k b o v ?_⟩;rw [hu]
 rcases hd b o with e | e
 ·rw [e];exact hv
 ·rw [e] at hv;cases hv
theorem Sat.fst (hs:Sat w0 w (P*F)):Sat w0 w P:=(hs.perm (star_comm P F)).drop
theorem Sat.emp_in (hs:Sat w0 w F):Sat w0 w (emp*F):=hs.perm (emp_star F).symm
theorem Sat.size (hs:Sat w0 w P):w0.heap.size≤w.heap.size:=hs.below.size
theorem Sat.old (hs:Sat w0 w P) {a:Addr} (h:a.block<w0.heap.size):w.cell? a=w0.cell? a:=hs.below.cell h
theorem Sat.of_same {w':World} (hs:Sat w0 w P) (hh:w'.heap=w.heap) (ho:w'.os=w.os) (ht:w'.tape=w.tape) (hp:w'.output=w.output):Sat w0 w' P:=by
 obtain ⟨hb,h,p,k⟩:=hs;exact ⟨⟨ho.trans hb.os,ht.trans hb.tape,hp.trans hb.output,by rw [hh];exact hb.size,fun i hi=>by rw [hh];exact hb.block i hi⟩,h,p,fun b o v hv=>⟨(k b o v hv).1,(k b o v hv).2.same hh⟩⟩
theorem Sat.drew (hs:Sat w0 w P):Sat w0 w.drew P:=hs.of_same rfl rfl rfl rfl
theorem Sat.drewN (hs:Sat w0 w P) (n:Nat):Sat w0 (w.drewN n) P:=hs.of_same rfl rfl rfl rfl
theorem Sat.has {ss:List Slot} (hs:Sat w0 w (ptz b o ss*F)) {j:Nat} {v:Slot} (hj:ss[j]?=some v):w0.heap.size≤b∧Has w b (o+j) v:=by
 obtain ⟨_,h,⟨h1,h2,_,hu,p,_⟩,k⟩:=hs;refine k b (o+j) v ?_;rw [hu,p,if_pos ⟨rfl,by omega⟩,show o+j-o=j by omega,hj];rfl
theorem Sat.cell (hs:Sat w0 w (pts b o xs*F)) {j:Nat} {v:Value} (hj:xs[j]?=some v):w.cell? ⟨b,o+j,none⟩=some v :=
 (Sat.has hs (j:=j) (v:=.cell v) (by rw [List.getElem?_map,hj];rfl)).2.1
theorem Sat.frz (hs:Sat w0 w (pts b o xs*F)) {j:Nat} (hj:j<xs.length):w.frozen? ⟨b,o+j,none⟩=false :=
 (Sat.has hs (j:=j) (v:=.cell xs[j]) (by rw [List.getElem?_map,List.getElem?_eq_getElem hj];rfl)).2.2
theorem Sat.above (hs:Sat w0 w (pts b o xs*F)) (h0:0<xs.length):w0.heap.size≤b∧b<w.heap.size:=by
 have:=Sat.has hs (j:=0) (v:=.cell xs[0]) (by rw [List.getElem?_map,List.getElem?_eq_getElem h0];rfl);exact ⟨this.1,this.2.lt⟩
theorem Sat.c0 {v:Value} (hs:Sat w0 w (pts b o (v::xs)*F)):w.cell? ⟨b,o,none⟩=some v:=hs.cell (j:=0) rfl
theorem Sat.f0 {v:Value} (hs:Sat w0 w (pts b o (v::xs)*F)):w.frozen? ⟨b,o,none⟩=false:=hs.frz (j:=0) (by simp)
theorem Sat.apart {ys:List Value} {b' o':Nat} (hs:Sat w0 w (pts b o xs*(pts b' o' ys*F))) {j j':Nat} (hj:j<xs.length) (hj':j'<ys.length):(⟨b,o+j,none⟩:Addr)≠⟨b',o'+j',none⟩:=by
 obtain ⟨_,h,⟨h1,h2,hd,hu,p,⟨h3,h4,hd',hu',q,_⟩⟩,k⟩:=hs;intro e;simp only [Addr.mk.injEq] at e;obtain ⟨rfl,e,_⟩:=e;have e1:h1 b (o+j)=some (.cell xs[j]):=by rw [p,if_pos ⟨rfl,by omega⟩,show o+j-o=j by omega,List.getElem?_map,List.getElem?_eq_getElem hj];rfl
 have e2:h2 b (o+j)=some (.cell ys[j']):=by rw [hu',q,if_pos ⟨rfl,by omega⟩,e,show o'+j'-o'=j' by omega,List.getElem?_map,List.getElem?_eq_getElem hj'];rfl
 rcases hd b (o+j) with e3 | e3
 ·rw [e1] at e3;cases e3
 ·rw [e2] at e3;cases e3
theorem Sat.put {ss:List Slot} (hs:Sat w0 w (ptz b o ss*F)) {j:Nat} (hj:j<ss.length) (s:Slot) {w':World} (hb':Below w0.heap.size w0 w') (hn:Has w' b (o+j) s) (hk:∀ g p x, ¬ (g=b∧p=o+j)→Has w g p x→Has w' g p x):Sat w0 w' (ptz b o (ss.set j s)*F) := by
  have hab := (Sat.has hs (j := j) (List.getElem?_eq_getElem hj)).1;obtain ⟨hb, h, ⟨h1, h2, hd, hu, p, f⟩, k⟩ := hs;have e1:h1 b (o+j)=some ss[j] := by rw [p, if_pos ⟨rfl, by omega⟩, show o+j-o=j by omega, List.getElem?_eq_getElem hj]
  have e2 : h2 b (o + j) = none := by rcases hd b (o + j) with e | e; · rw [e1] at e; cases e
                                      · exact e
  refine ⟨hb', fun b' o' => if b'=b∧o'=o+j then some s else h b' o',
    ⟨fun b' o' => if b'=b∧o'=o+j then some s else h1 b' o', h2, fun b' o' => ?_, fun b' o' => ?_, fun b' o' => ?_, f⟩, fun b' o' u hv => ?_⟩
  · by_cases e:b'=b∧o'=o+j
    · obtain ⟨rfl, rfl⟩ := e; exact .inr e2
    · simp only [e, if_false]; exact hd b' o'
  · by_cases e:b'=b∧o'=o+j
    · simp [e]
    · simp only [e, if_false]; exact hu b' o'
  · by_cases e:b'=b∧o'=o+j
    · obtain ⟨rfl, rfl⟩ := e
      simp only [and_self, if_true];rw [if_pos ⟨trivial, by omega⟩, show o+j-o=j by omega, List.getElem?_set_self hj]
    · simp only [e, if_false]
      rw [p]
      by_cases hh:b'=b∧o≤o'
      · rw [if_pos hh, if_pos hh, List.getElem?_set_ne (by omega)]
      · rw [if_neg hh, if_neg hh]
  · by_cases e:b'=b∧o'=o+j
    · obtain ⟨rfl, rfl⟩ := e
      simp only [and_self, if_true, Option.some.injEq] at hv;subst hv;exact ⟨hab, hn⟩
    · simp only [e, if_false] at hv
      obtain ⟨k1, k2⟩ := k b' o' u hv;exact ⟨k1, hk _ _ _ e k2⟩
theorem Sat.set (hs:Sat w0 w (pts b o xs*F)) {j:Nat} (hj:j<xs.length) (v:Value):Sat w0 (w.setCell ⟨b,o+j,none⟩ v) (pts b o (xs.set j v)*F):=by
 have hc:=hs.cell (j:=j) (List.getElem?_eq_getElem hj);have hf:=hs.frz hj;have hab:=hs.above (by omega);have h:=Sat.put (ss:=xs.map Slot.cell) hs (j:=j) (by rw [List.length_map];exact hj) (.cell v) (hs.below.setCell (by simpa using hab.1) _)
  ⟨World.cell?_setCell_same _ _ _ hc,by rw [World.frozen?_setCell];exact hf⟩ (fun g p x hne hx=>hx.set v hne)
 unfold pts;rw [List.map_set];exact h
theorem Sat.set0 {u:Value} (hs:Sat w0 w (pts b o (u::xs)*F)) (v:Value):Sat w0 (w.setCell ⟨b,o,none⟩ v) (pts b o (v::xs)*F):=hs.set (j:=0) (by simp) v
theorem Sat.fresh (hs:Sat w0 w F) (ob:Obj) (ss:List Slot) (hn:∀ o s,ss[o]?=some s→Has (w.alloc ob) w.heap.size o s):Sat w0 (w.alloc ob) (ptz w.heap.size 0 ss*F):=by
 obtain ⟨hb,h,p,k⟩:=hs;have old:∀ b o,w.heap.size≤b→h b o=none:=fun b o hbs=>by
  cases e:h b o with
  | none=>rfl
  | some v=>have:=(k b o v e).2.lt;omega
 refine ⟨hb.alloc hb.size _,fun b' o'=>if b'=w.heap.size then ss[o']? else h b' o',⟨fun b' o'=>if b'=w.heap.size then ss[o']? else none,h,fun b' o'=>?_,fun b' o'=>?_,fun b' o'=>?_,p⟩,fun b' o' v hv=>?_⟩
 ·by_cases e:b'=w.heap.size
  ·right;exact old b' o' (by omega)
  ·left;simp [e]
 ·by_cases e:b'=w.heap.size
  ·simp only [e,if_true];rw [old _ _ (Nat.le_refl _),Option.or_none]
  ·simp [e]
 ·by_cases e:b'=w.heap.size
  ·simp [e]
  ·simp [e]
 ·by_cases e:b'=w.heap.size
  ·subst e;simp only [if_true] at hv;exact ⟨hb.size,hn _ _ hv⟩
  ·simp only [e,if_false] at hv;obtain ⟨k1,k2⟩:=k b' o' v hv;exact ⟨k1,k2.alloc _⟩
theorem Sat.alloc (hs:Sat w0 w F) (c:Array Value) (t:TypeId):Sat w0 (w.alloc (.cells c t)) (pts w.heap.size 0 c.toList*F):=by
 refine hs.fresh _ _ fun o s h=>?_;rw [List.getElem?_map] at h
 cases e:c.toList[o]? with
 | none=>rw [e] at h;cases h
 | some v =>
  rw [e] at h
  cases h
  exact ⟨by rw [World.cell?_alloc_new];simpa using e,World.frozen?_alloc_new w c t o⟩
theorem Sat.setCells:∀ (vs:List Value) (w:World) (xs ys:List Value) (_:Sat w0 w (pts b o (xs++ys)*F)) (_:vs.length≤ys.length),
  Sat w0 (w.setCells b (o+xs.length) vs) (pts b o (xs++vs++ys.drop vs.length)*F)
 | [],w,xs,ys,hs,_=>by simpa [World.setCells] using hs
 | v::vs,w,xs,y::ys,hs,hl=>by
  have h1:=hs.set (j:=xs.length) (by simp) v;have h2:=Sat.setCells vs _ (xs++[v]) ys (h1.perm (by simp)) (by simpa using hl)
  simpa [World.setCells,Nat.add_assoc] using h2
def mapP (b:Nat) (es:Array MapEntry) (c:Nat):HP:=ptz b 0 [.map es c]
theorem Sat.map_at {es:Array MapEntry} {c:Nat} (hs:Sat w0 w (mapP b es c*F)):w.heap[b]?=some (.map es c):=(Sat.has hs (j:=0) rfl).2.2
theorem Sat.map_above {es:Array MapEntry} {c:Nat} (hs:Sat w0 w (mapP b es c*F)):w0.heap.size≤b:=(Sat.has hs (j:=0) rfl).1
theorem Sat.map_new (hs:Sat w0 w F) (es:Array MapEntry) (c:Nat):Sat w0 (w.alloc (.map es c)) (mapP w.heap.size es c*F):=by
 refine hs.fresh _ _ fun o s h=>?_
 cases o with
 | zero=>cases h;exact ⟨rfl,by unfold World.alloc;simp⟩
 | succ o=>cases h
theorem Sat.ex_out {α:Type} {f:α→HP} (hs:Sat w0 w (ex f*F)):∃ a,Sat w0 w (f a*F):=by
 obtain ⟨hb,h,⟨h1,h2,hd,hu,⟨a,p⟩,q⟩,k⟩:=hs;exact ⟨a,hb,h,⟨h1,h2,hd,hu,p,q⟩,k⟩
theorem Sat.ex_in {α:Type} {f:α→HP} (a:α) (hs:Sat w0 w (f a*F)):Sat w0 w (ex f*F):=hs.wk fun _ p=>⟨a,p⟩
theorem Sat.pur_out {p:Prop} (hs:Sat w0 w (pur p*F)):p∧Sat w0 w F:=by
 have:=hs.drop;obtain ⟨_,_,⟨_,_,_,_,⟨hp,_⟩,_⟩,_⟩:=hs;exact ⟨hp,this⟩
theorem Sat.pur_in {p:Prop} (hp:p) (hs:Sat w0 w F):Sat w0 w (pur p*F):=hs.emp_in.wk fun _ e=>⟨hp,e⟩
end
def sliceP (k:Nat) (v:Value) (n:Nat) (xs:List Value):HP:=fun h =>
 (v=.slice none 0 0∧n=0∧xs=[]∧∀ b o,h b o=none) ∨
 ∃ g off cap sp,v=.slice (some ⟨g,off,none⟩) n cap∧n≤cap∧cap≤maxLen∧xs.length=n*k∧sp.length=(cap-n)*k∧pts g off (xs++sp) h
section
variable {w0 w:World} {P Q F:HP} {k:Nat} {v:Value} {n:Nat} {xs:List Value}
theorem Sat.slice_out (hs:Sat w0 w (sliceP k v n xs*F)):(v=.slice none 0 0∧n=0∧xs=[]∧Sat w0 w F) ∨
  ∃ g off cap sp,v=.slice (some ⟨g,off,none⟩) n cap∧n≤cap∧cap≤maxLen∧xs.length=n*k∧sp.length=(cap-n)*k∧Sat w0 w (pts g off (xs++sp)*F):=by
 have hd:=hs.drop;obtain ⟨hb,h,⟨h1,h2,hd',hu,p,f⟩,kk⟩:=hs
 rcases p with ⟨e1,e2,e3,_⟩ | ⟨g,off,cap,sp,e1,e2,e3,e4,e5,p⟩
 ·exact .inl ⟨e1,e2,e3,hd⟩
 ·exact .inr ⟨g,off,cap,sp,e1,e2,e3,e4,e5,hb,h,⟨h1,h2,hd',hu,p,f⟩,kk⟩
theorem Sat.slice_form (hs:Sat w0 w (sliceP k v n xs*F)):∃ a cap,v=.slice a n cap:=by
 rcases hs.slice_out with ⟨rfl,rfl,_,_⟩ | ⟨g,off,cap,sp,rfl,_⟩
 ·exact ⟨none,0,rfl⟩
 ·exact ⟨_,cap,rfl⟩
theorem Sat.slice_nil (k:Nat) (hs:Sat w0 w F):Sat w0 w (sliceP k (.slice none 0 0) 0 []*F):=hs.emp_in.wk fun _ e=>.inl ⟨rfl,rfl,rfl,e⟩
theorem Sat.slice_in {g off cap:Nat} {sp:List Value} (hs:Sat w0 w (pts g off (xs++sp)*F)) (h1:n≤cap) (h2:cap≤maxLen) (h3:xs.length=n*k) (h4:sp.length=(cap-n)*k) :
  Sat w0 w (sliceP k (.slice (some ⟨g,off,none⟩) n cap) n xs*F):=hs.wk fun _ p=>.inr ⟨g,off,cap,sp,rfl,h1,h2,h3,h4,p⟩
theorem size_setCells (b:Nat):∀ (vs:List Value) (o:Nat) (w:World),(w.setCells b o vs).heap.size=w.heap.size
 | [],_,_=>rfl
 | v::r,o,w=>by rw [World.setCells,size_setCells b r];simp
theorem append_sat {P:Program} (t ty e:TypeId) (i:TypeInfo) (z:Value) (size bytes:Nat) (ht:P.underlying t=some (.slice e)) (hi:P.info? e=some i) (hz:i.zero=some z)
    (hsize:i.size=size) (hby:i.bytes=bytes) (hzs:z.cells.size=size) (hs:Sat w0 w (sliceP size v n xs*F))
    (ad:Option Addr) (m c:Nat) (news:List Value) (hl:news.length=m*size) (had:ad=none→m=0) (hnews:∀ a, ad=some a→∀ j u, news[j]?=some u→w.cell? (a.add j)=some u) (h1:∀ u∈news, u.oneCell'=true)
    (h63:n+m≤maxLen) (hbytes:(n+m)*bytes≤140737488355328) :
    ∃ v' w', (Builtin.append_ #[t, t] ty #[v, .slice ad m c]).run P w=.ok v' w'∧Sat w0 w' (sliceP size v' (n+m) (xs++news)*F)∧w.heap.size≤w'.heap.size := by
  subst hsize;subst hby
  have hsmall:n+m≤9223372036854775807 := by simp only [maxLen] at h63; omega
  by_cases hm:m=0
  · subst hm
    have hn0:news=[] := List.eq_nil_of_length_eq_zero (by simpa using hl);subst hn0;refine ⟨v, w, ?_, by simpa using hs, Nat.le_refl _⟩
    rcases hs.slice_out with ⟨rfl, rfl, rfl, _⟩ | ⟨g, off, cap, sp, rfl, hc, _, hx, hsp, hs'⟩
    · cases ad<;>simp [Builtin.append_, run_underlying ht, sizeOf, typeInfo, hi, Builtin.lenOf, Builtin.firstCells, loadCells, loadCellsFrom]
    · cases ad<;>simp [Builtin.append_, run_underlying ht, sizeOf, typeInfo, hi, Builtin.lenOf, Builtin.firstCells, loadCells, loadCellsFrom, hc, storeCells]
  obtain ⟨a, rfl⟩:∃ a, ad=some a := by cases ad with | none => exact absurd (had rfl) hm | some a => exact ⟨a, rfl⟩
  have hnews' := hnews a rfl
  rcases hs.slice_out with ⟨rfl, rfl, rfl, hs'⟩ | ⟨g, off, cap, sp, rfl, hc, hcm, hx, hsp, hs'⟩
  · have hr := run_append_nil (P := P) w t ty e i z ht hi hz a m c news hl hnews' (by omega) (by omega) (by have hb := hbytes; simp only [Nat.zero_add] at hb; omega)
    refine ⟨_, _, hr, ?_, by simp⟩;have hge := grownCap_ge w m 0 e;have hcm:grownCap w m 0 e≤maxLen := grownCap_le_maxLen w m 0 e (by omega);have h2 := hs'.drew.alloc (news.toArray++Builtin.zeroCells z.cells (grownCap w m 0 e-m)) e;have h3 := Sat.slice_in (w0 := w0) (g := w.heap.size) (off := 0) (F := F) (k := i.size) (n := m) (xs := news) (cap := grownCap w m 0 e) (sp := (Builtin.zeroCells z.cells (grownCap w m 0 e-m)).toList) (h2.perm (by simp)) hge hcm hl (by simp [size_zeroCells, hzs])
    simpa using h3
  · by_cases hroom:n+m≤cap
    · have hspl:m*i.size≤sp.length := by rw [hsp]; exact Nat.mul_le_mul_right _ (by omega)
      have hr := run_append_room_cells (P := P) w t ty e i ht hi g off n cap a m c news hl hnews' h1 hroom
        (fun j hj => by
          have := hs'.cell (j := n*i.size+j) (v := (xs++sp)[n*i.size+j]'(by simp; omega)) (List.getElem?_eq_getElem _);rw [← Nat.add_assoc] at this; rw [this]; rfl)
        (fun j hj => by
          have := hs'.frz (j := n*i.size+j) (by simp; omega)
          rwa [← Nat.add_assoc] at this)
      refine ⟨_, _, hr, ?_, by rw [size_setCells]; exact Nat.le_refl _⟩;have h2 := Sat.setCells news w xs sp hs' (by omega);rw [hx] at h2;exact Sat.slice_in h2 hroom hcm (by simp [hx, hl, Nat.add_mul]) (by simp [hsp, hl, ← Nat.sub_mul]; congr 1; omega)
    · have hr := run_append_grow (P := P) w t ty e i z ht hi hz ⟨g, off, none⟩ n cap xs hx (fun j u hj => by
          rw [Addr.add_lit];exact hs'.cell (by rw [List.getElem?_append_left (List.getElem?_eq_some_iff.1 hj).1]; exact hj)) a m c news hl hnews' (by omega) (by omega) (growslice_fits (by omega) hbytes)
      refine ⟨_, _, hr, ?_, by simp⟩;have hge := grownCap_ge w (n+m) cap e;have hcm:grownCap w (n+m) cap e≤maxLen := grownCap_le_maxLen w (n+m) cap e h63;have h2 := hs'.drop.drew.alloc (xs.toArray++news.toArray++Builtin.zeroCells z.cells (grownCap w (n+m) cap e-(n+m))) e;have h3 := Sat.slice_in (w0 := w0) (g := w.heap.size) (off := 0) (F := F) (k := i.size) (n := n+m) (xs := xs++news) (cap := grownCap w (n+m) cap e) (sp := (Builtin.zeroCells z.cells (grownCap w (n+m) cap e-(n+m))).toList) (h2.perm (by simp)) hge hcm (by simp [hx, hl, Nat.add_mul]) (by simp [size_zeroCells, hzs])
      simpa using h3
end
structure ElemT (P:Program) (t e size bytes:Nat) (z:Value):Prop where
 ht:P.underlying t=some (.slice e)
 hi:(P.info? e).map (fun i=>(i.zero,i.size,i.bytes))=some (some z,size,bytes)
 hz:z.cells.size=size
section
variable {P:Program} {w0 w:World} {F:HP} {v:Value} {n:Nat} {xs:List Value} {t e size bytes:Nat} {z:Value}
theorem append_run (E:ElemT P t e size bytes z) (ty:TypeId) (hs:Sat w0 w (sliceP size v n xs*F))
  (ad:Option Addr) (m c:Nat) (news:List Value) (hl:news.length=m*size) (had:ad=none→m=0) (hnews:∀ a,ad=some a→∀ j u,news[j]?=some u→w.cell? (a.add j)=some u) (h1:∀ u∈news,u.oneCell'=true)
  (h63:n+m≤maxLen) (hbytes:(n+m)*bytes≤140737488355328) :
  ∃ v' w',(Builtin.append_ #[t,t] ty #[v,.slice ad m c]).run P w=.ok v' w'∧Sat w0 w' (sliceP size v' (n+m) (xs++news)*F)∧w.heap.size≤w'.heap.size:=by
 obtain ⟨i,hi,h2,h3,h4⟩:=info_parts E.hi;exact append_sat t ty e i z size bytes E.ht hi h2 h3 h4 E.hz hs ad m c news hl had hnews h1 h63 hbytes
theorem wp_append_sat {o:Oper} {a:Act} {K:Act→World→Prop} {Q:Exit→Act→World→Prop} (s x:Operand)
  (ho:o.op=.call { callee:=.builtin .append,args:=#[s,x],argTypes:=#[t,t] }) (E:ElemT P t e size bytes z)
  (hv:a.eval s=v) (hs:Sat w0 w (sliceP size v n xs*F))
  (ad:Option Addr) (m c:Nat) (news:List Value) (hx:a.eval x=.slice ad m c) (hl:news.length=m*size) (had:ad=none→m=0) (hnews:∀ a,ad=some a→∀ j u,news[j]?=some u→w.cell? (a.add j)=some u) (h1:∀ u∈news,u.oneCell'=true)
  (h63:n+m≤maxLen) (hbytes:(n+m)*bytes≤140737488355328)
  (h:∀ v' w',Sat w0 w' (sliceP size v' (n+m) (xs++news)*F)→w.heap.size≤w'.heap.size→K (a.put o.dst v') w'):o.wp P a w K Q:=by
 obtain ⟨v',w',hr,h2,h3⟩:=append_run E o.type hs ad m c news hl had hnews h1 h63 hbytes;unfold Oper.wp execOp;simp only [ho,resolve,invoke,builtin,Sem.run_bind,Sem.run_pure,Result.andThen_ok,List.map_toArray,List.map_cons,List.map_nil,hv,hx,hr];exact h v' w' h2 h3
theorem wpList_append_sat {ops:Array Oper} {rest:List Oper} {o:Oper} {a:Act} {Q:Exit→Act→World→Prop} (hgd:o.guard=none) (s x:Operand)
  (ho:o.op=.call { callee:=.builtin .append,args:=#[s,x],argTypes:=#[t,t] }) (E:ElemT P t e size bytes z)
  (hv:a.eval s=v) (hs:Sat w0 w (sliceP size v n xs*F))
  (ad:Option Addr) (m c:Nat) (news:List Value) (hx:a.eval x=.slice ad m c) (hl:news.length=m*size) (had:ad=none→m=0) (hnews:∀ a,ad=some a→∀ j u,news[j]?=some u→w.cell? (a.add j)=some u) (h1:∀ u∈news,u.oneCell'=true)
  (h63:n+m≤maxLen) (hbytes:(n+m)*bytes≤140737488355328)
  (h:∀ v' w',Sat w0 w' (sliceP size v' (n+m) (xs++news)*F)→w.heap.size≤w'.heap.size→wpList P ops Q rest (a.put o.dst v') w'):wpList P ops Q (o::rest) a w :=
 wpList_plain hgd fun _ hK=>wp_append_sat s x ho E hv hs ad m c news hx hl had hnews h1 h63 hbytes fun v' w' h2 h3=>hK _ _ (h v' w' h2 h3)
end
def RdN (κ:IntKind) (w:World) (v:Value) (l:List Int):Prop :=
 ∃ a cap b off,v=.slice a l.length cap∧l.length≤cap∧cap≤maxLen∧(l≠[]→a=some ⟨b,off,none⟩)∧∀ j,j<l.length→w.cell? ⟨b,off+j,none⟩=some (.int κ (l.getD j 0))
def numsP (κ:IntKind) (v:Value) (l:List Int):HP:=sliceP 1 v l.length (l.map (Value.int κ))
section
variable {w0 w:World} {F:HP} {κ:IntKind} {v:Value} {l:List Int}
theorem Sat.keep {P:HP} {a:Addr} {u:Value} (hs:Sat w0 w P) (h:w0.cell? a=some u):w.cell? a=some u:=by
 rw [hs.old (World.block_lt_of_cell? w0 _ h)];exact h
theorem RdN.drewN (h:RdN κ w v l) (n:Nat):RdN κ (w.drewN n) v l:=h
theorem RdN.later {P:HP} (h:RdN κ w0 v l) (hs:Sat w0 w P):RdN κ w v l:=by
 obtain ⟨a,cap,b,off,h1,h2,h3,h4,h5⟩:=h;refine ⟨a,cap,b,off,h1,h2,h3,h4,fun j hj=>?_⟩;have hc:=h5 j hj;rw [hs.old (World.block_lt_of_cell? w0 _ hc)];exact hc
theorem Sat.rdN (hs:Sat w0 w (numsP κ v l*F)):RdN κ w v l:=by
 rcases hs.slice_out with ⟨rfl,h0,h1,_⟩ | ⟨g,off,cap,sp,rfl,hc,hcm,hx,hsp,hs'⟩
 ·have:l=[]:=List.eq_nil_of_length_eq_zero h0;subst this;exact ⟨none,0,0,0,rfl,Nat.le_refl _,Nat.zero_le _,fun h=>absurd rfl h,fun j hj=>absurd hj (Nat.not_lt_zero _)⟩
 ·refine ⟨_,cap,g,off,rfl,hc,hcm,fun _=>rfl,fun j hj=>hs'.cell ?_⟩;rw [List.getElem?_append_left (by simpa using hj)];simp [List.getD,hj]
def Stays (w0:World) (F:HP) (κ:IntKind) (v:Value) (l:List Int):Prop:=∀ w,Sat w0 w F→RdN κ w v l
theorem RdN.stays (h:RdN κ w0 v l) (F:HP):Stays w0 F κ v l:=fun _ hs=>h.later hs
theorem Stays.rd {G:HP} (h:Stays w0 F κ v l) (hs:Sat w0 w (G*F)):RdN κ w v l:=h _ hs.drop
theorem RdN.len (h:RdN κ w v l):l.length≤maxLen:=by
 obtain ⟨a,cap,b,off,h1,h2,h3,h4,h5⟩:=h;omega
end
def RdK (κs:List IntKind) (w:World) (v:Value) (n:Nat) (f:Nat→Nat→Int):Prop :=
 ∃ a cap b off,v=.slice a n cap∧n≤cap∧cap≤maxLen∧(0<n→a=some ⟨b,off,none⟩)∧∀ i c κ,i<n→κs[c]?=some κ→w.cell? ⟨b,off+(i*κs.length+c),none⟩=some (.int κ (f i c))∧(Lit.int κ (f i c)).wf=true
def Ret (w0:World) (Q:Value→HP) (e:Ending) (w':World):Prop:=∃ v,e=.returned v∧Sat w0 w' (Q v)
def RetV (w0:World) (v:Value) (Q:HP) (e:Ending) (w':World):Prop:=e=.returned v∧Sat w0 w' Q
theorem Sat.empty_slice {w0 w:World} {F:HP} (k:Nat) (hs:Sat w0 w F) (t:TypeId):Sat w0 (w.alloc (.cells #[] t)) (sliceP k (.slice (some ⟨w.heap.size,0,none⟩) 0 0) 0 []*F) :=
 Sat.slice_in (sp:=[]) (hs.alloc #[] t) (Nat.le_refl _) (Nat.zero_le _) (by simp) (by simp)
theorem cell_alloc {w:World} {a:Addr} {v:Value} (h:w.cell? a=some v) (o:Obj):(w.alloc o).cell? a=some v:=by
 rw [World.cell?_alloc_lt _ _ _ (World.block_lt_of_cell? w _ h)];exact h
theorem RdN.alloc {κ:IntKind} {w:World} {v:Value} {l:List Int} (h:RdN κ w v l) (o:Obj):RdN κ (w.alloc o) v l:=by
 obtain ⟨a,cap,b,off,h1,h2,h3,h4,h5⟩:=h;exact ⟨a,cap,b,off,h1,h2,h3,h4,fun j hj=>cell_alloc (h5 j hj) o⟩
theorem RdN.drew {κ:IntKind} {w:World} {v:Value} {l:List Int} (h:RdN κ w v l):RdN κ w.drew v l:=h
theorem rdN_lit (κ:IntKind) (l:List Int) (w:World) (t:TypeId) (h:l.length≤maxLen):RdN κ (w.alloc (.cells (l.map (Value.int κ)).toArray t)) (.slice (some ⟨w.heap.size,0,none⟩) l.length l.length) l :=
 ⟨_,l.length,w.heap.size,0,rfl,Nat.le_refl _,h,fun _=>rfl,fun j hj=>by
  rw [Nat.zero_add,World.cell?_alloc_new];simp [List.getD,hj]⟩
theorem oneCell_ints {κ:IntKind} (l:List Int):∀ u∈l.map (Value.int κ),u.oneCell'=true:=by
 intro u hu;obtain ⟨x,_,rfl⟩:=List.mem_map.1 hu
 rfl
theorem RdN.news {κ:IntKind} {w:World} {a:Option Addr} {n cap:Nat} {l:List Int} (h:RdN κ w (.slice a n cap) l) :
  n=l.length∧(a=none→n=0)∧∀ ad,a=some ad→∀ j u,(l.map (Value.int κ))[j]?=some u→w.cell? (ad.add j)=some u:=by
 obtain ⟨a',cap',b,off,h1,h2,h3,h4,h5⟩:=h;simp only [Value.slice.injEq] at h1;obtain ⟨rfl,rfl,rfl⟩:=h1;have hne:0<l.length→l≠[]:=fun h e=>by simp [e] at h
 refine ⟨rfl,fun hn=>?_,fun ad had j u hu=>?_⟩
 ·rcases Nat.eq_zero_or_pos l.length with h | h
  ·exact h
  ·have:=h4 (hne h);rw [hn] at this;cases this
 ·have hj:j<l.length:=by simpa using (List.getElem?_eq_some_iff.1 hu).1
  have e:=h4 (hne (by omega));rw [had] at e
  cases e
  rw [Addr.add_lit,h5 j hj]
  simpa [List.getD,hj] using hu
section
variable {w0 w:World} {F:HP} {b o:Nat} {u v x:Value} {xs:List Value}
theorem Sat.c1 (hs:Sat w0 w (pts b o (u::v::xs)*F)):w.cell? ⟨b,o+1,none⟩=some v:=hs.cell (j:=1) rfl
theorem Sat.c2 (hs:Sat w0 w (pts b o (u::v::x::xs)*F)):w.cell? ⟨b,o+2,none⟩=some x:=hs.cell (j:=2) rfl
theorem Sat.f1 (hs:Sat w0 w (pts b o (u::v::xs)*F)):w.frozen? ⟨b,o+1,none⟩=false:=hs.frz (j:=1) (by simp)
end
theorem own_it {w0 w:World} {P:HP} [h:Sat w0 w P]:Sat w0 w P:=h
class Pull (P Q:HP) (F:outParam HP):Prop where
 eq:P=Q*F
instance (priority:=2000) Pull.here (Q F:HP):Pull (Q*F) Q F:=⟨rfl⟩
instance (priority:=100) Pull.last (Q:HP):Pull Q Q emp:=⟨(star_emp Q).symm⟩
instance (priority:=1000) Pull.right (A G Q F:HP) [h:Pull G Q F]:Pull (A*G) Q (A*F):=⟨by rw [h.eq];ac_rfl⟩
instance (priority:=900) Pull.left (A G Q F:HP) [h:Pull A Q F]:Pull (A*G) Q (F*G):=⟨by rw [h.eq];ac_rfl⟩
theorem Sat.pull {w0 w:World} {P Q F:HP} (hs:Sat w0 w P) [h:Pull P Q F]:Sat w0 w (Q*F):=hs.perm h.eq
theorem own {w0 w:World} {P Q F:HP} [hs:Sat w0 w P] [h:Pull P Q F]:Sat w0 w (Q*F):=hs.perm h.eq
class Lt (k n:Nat):Prop where
 lt:k<n
class Cell (P:HP) (b o:Nat) (v:outParam Value):Prop where
 cell:∀ {w0 w F},Sat w0 w (P*F)→w.cell? ⟨b,o,none⟩=some v
 free:∀ {w0 w F},Sat w0 w (P*F)→w.frozen? ⟨b,o,none⟩=false
instance (priority:=2000) Cell.head (b o:Nat) (x:Value) (xs:List Value):Cell (pts b o (x::xs)) b o x:=⟨fun h=>h.c0,fun h=>h.f0⟩
instance (priority:=1500) Cell.tail (b o o':Nat) (x v:Value) (xs:List Value) [h:Cell (pts b (o+1) xs) b o' v]:Cell (pts b o (x::xs)) b o' v :=
 ⟨fun {w0 w F} hs=>h.cell (F:=pts b o [x]*F) (hs.perm (by rw [pts_cons];ac_rfl)),fun {w0 w F} hs=>h.free (F:=pts b o [x]*F) (hs.perm (by rw [pts_cons];ac_rfl))⟩
instance (priority:=1000) Cell.left (A G:HP) (b o:Nat) (v:Value) [h:Cell A b o v]:Cell (A*G) b o v :=
 ⟨fun {w0 w F} hs=>h.cell (F:=G*F) (hs.perm (by ac_rfl)),fun {w0 w F} hs=>h.free (F:=G*F) (hs.perm (by ac_rfl))⟩
instance (priority:=900) Cell.right (A G:HP) (b o:Nat) (v:Value) [h:Cell G b o v]:Cell (A*G) b o v :=
 ⟨fun {w0 w F} hs=>h.cell (F:=A*F) (hs.perm (by ac_rfl)),fun {w0 w F} hs=>h.free (F:=A*F) (hs.perm (by ac_rfl))⟩
theorem getElem?_map_int (κ:IntKind) {l:List Int} {k:Nat} (h:k<l.length):(l.map (Value.int κ))[k]?=some (.int κ (l.getD k 0)):=by simp [List.getD,h]
theorem getElem?_map_bool {l:List Bool} {k:Nat} (h:k<l.length):(l.map Value.bool)[k]?=some (.bool (l.getD k false)):=by simp [List.getD,h]
theorem pts_split {w0 w:World} {F:HP} {b o:Nat} {xs:List Value} {k:Nat} {v:Value} (hs:Sat w0 w (pts b o xs*F)) (h:xs[k]?=some v):w.cell? ⟨b,o+k,none⟩=some v∧w.frozen? ⟨b,o+k,none⟩=false :=
 ⟨hs.cell h,hs.frz (List.getElem?_eq_some_iff.1 h).1⟩
instance (priority:=1200) Cell.num (κ:IntKind) (b o k:Nat) (l:List Int) [h:Lt k l.length]:Cell (pts b o (l.map (Value.int κ))) b (o+k) (.int κ (l.getD k 0)) :=
 ⟨fun hs=>(pts_split hs (getElem?_map_int κ h.lt)).1,fun hs=>(pts_split hs (getElem?_map_int κ h.lt)).2⟩
instance (priority:=1200) Cell.num0 (κ:IntKind) (b k:Nat) (l:List Int) [h:Lt k l.length]:Cell (pts b 0 (l.map (Value.int κ))) b k (.int κ (l.getD k 0)) :=
 ⟨fun hs=>by have:=(pts_split hs (getElem?_map_int κ h.lt)).1;rwa [Nat.zero_add] at this,fun hs=>by have:=(pts_split hs (getElem?_map_int κ h.lt)).2;rwa [Nat.zero_add] at this⟩
instance (priority:=1200) Cell.bln (b o k:Nat) (l:List Bool) [h:Lt k l.length]:Cell (pts b o (l.map Value.bool)) b (o+k) (.bool (l.getD k false)) :=
 ⟨fun hs=>(pts_split hs (getElem?_map_bool h.lt)).1,fun hs=>(pts_split hs (getElem?_map_bool h.lt)).2⟩
instance (priority:=1200) Cell.bln0 (b k:Nat) (l:List Bool) [h:Lt k l.length]:Cell (pts b 0 (l.map Value.bool)) b k (.bool (l.getD k false)) :=
 ⟨fun hs=>by have:=(pts_split hs (getElem?_map_bool h.lt)).1;rwa [Nat.zero_add] at this,fun hs=>by have:=(pts_split hs (getElem?_map_bool h.lt)).2;rwa [Nat.zero_add] at this⟩
theorem own_cell {w0 w:World} {P:HP} {b o:Nat} {v:Value} [h:Sat w0 w P] [c:Cell P b o v]:w.cell? ⟨b,o,none⟩=some v:=c.cell (F:=emp) (h.perm (star_emp P).symm)
theorem own_free {w0 w:World} {P:HP} {b o:Nat} {v:Value} [h:Sat w0 w P] [c:Cell P b o v]:w.frozen? ⟨b,o,none⟩=false:=c.free (F:=emp) (h.perm (star_emp P).symm)
class Upd (P:HP) (b o:Nat) (v:Value) (P':outParam HP):Prop where
 upd:∀ {w0 w F},Sat w0 w (P*F)→Sat w0 (w.setCell ⟨b,o,none⟩ v) (P'*F)
instance (priority:=2000) Upd.head (b o:Nat) (x v:Value) (xs:List Value):Upd (pts b o (x::xs)) b o v (pts b o (v::xs)):=⟨fun h=>h.set0 v⟩
instance (priority:=1500) Upd.tail (b o o':Nat) (x v:Value) (xs ys:List Value) [h:Upd (pts b (o+1) xs) b o' v (pts b (o+1) ys)]:Upd (pts b o (x::xs)) b o' v (pts b o (x::ys)) :=
 ⟨fun {w0 w F} hs=>(h.upd (F:=pts b o [x]*F) (hs.perm (by rw [pts_cons];ac_rfl))).perm (by rw [pts_cons b o x ys];ac_rfl)⟩
instance (priority:=1000) Upd.left (A A' G:HP) (b o:Nat) (v:Value) [h:Upd A b o v A']:Upd (A*G) b o v (A'*G) :=
 ⟨fun {w0 w F} hs=>(h.upd (F:=G*F) (hs.perm (by ac_rfl))).perm (by ac_rfl)⟩
instance (priority:=900) Upd.right (A G G':HP) (b o:Nat) (v:Value) [h:Upd G b o v G']:Upd (A*G) b o v (A*G') :=
 ⟨fun {w0 w F} hs=>(h.upd (F:=A*F) (hs.perm (by ac_rfl))).perm (by ac_rfl)⟩
instance (priority:=1200) Upd.num (κ:IntKind) (b o k:Nat) (n:Int) (l:List Int) [h:Lt k l.length]:Upd (pts b o (l.map (Value.int κ))) b (o+k) (.int κ n) (pts b o ((l.set k n).map (Value.int κ))) :=
 ⟨fun hs=>by rw [List.map_set];exact hs.set (by rw [List.length_map];exact h.lt) _⟩
instance (priority:=1200) Upd.num0 (κ:IntKind) (b k:Nat) (n:Int) (l:List Int) [h:Lt k l.length]:Upd (pts b 0 (l.map (Value.int κ))) b k (.int κ n) (pts b 0 ((l.set k n).map (Value.int κ))) :=
 ⟨fun {w0 w F} hs=>by have:=hs.set (j:=k) (by rw [List.length_map];exact h.lt) (.int κ n);rw [Nat.zero_add] at this;rw [List.map_set];exact this⟩
instance (priority:=1200) Upd.bln (b o k:Nat) (n:Bool) (l:List Bool) [h:Lt k l.length]:Upd (pts b o (l.map Value.bool)) b (o+k) (.bool n) (pts b o ((l.set k n).map Value.bool)) :=
 ⟨fun hs=>by rw [List.map_set];exact hs.set (by rw [List.length_map];exact h.lt) _⟩
instance (priority:=1200) Upd.bln0 (b k:Nat) (n:Bool) (l:List Bool) [h:Lt k l.length]:Upd (pts b 0 (l.map Value.bool)) b k (.bool n) (pts b 0 ((l.set k n).map Value.bool)) :=
 ⟨fun {w0 w F} hs=>by have:=hs.set (j:=k) (by rw [List.length_map];exact h.lt) (.bool n);rw [Nat.zero_add] at this;rw [List.map_set];exact this⟩
class Size (w:World) (n:outParam Nat):Prop where
 eq:w.heap.size=n
instance (priority:=100) Size.base (w:World):Size w w.heap.size:=⟨rfl⟩
instance (priority:=1000) Size.set (w:World) (a:Addr) (v:Value) (n:Nat) [h:Size w n]:Size (w.setCell a v) n:=⟨by rw [World.size_setCell];exact h.eq⟩
instance (priority:=1000) Size.drew (w:World) (n:Nat) [h:Size w n]:Size w.drew n:=⟨h.eq⟩
instance (priority:=1000) Size.drewN (w:World) (k n:Nat) [h:Size w n]:Size (w.drewN k) n:=⟨h.eq⟩
instance (priority:=1000) Size.alloc (w:World) (o:Obj) (n:Nat) [h:Size w n]:Size (w.alloc o) (n+1):=⟨by simp [h.eq]⟩
instance Sat.iset (w0 w:World) (P P':HP) (b o:Nat) (v:Value) [h:Sat w0 w P] [u:Upd P b o v P']:Sat w0 (w.setCell ⟨b,o,none⟩ v) P' :=
 (u.upd (F:=emp) (h.perm (star_emp P).symm)).perm (star_emp P')
instance Sat.idrew (w0 w:World) (P:HP) [h:Sat w0 w P]:Sat w0 w.drew P:=h.drew
instance Sat.idrewN (w0 w:World) (P:HP) (n:Nat) [h:Sat w0 w P]:Sat w0 (w.drewN n) P:=h.drewN n
instance Sat.ialloc (w0 w:World) (P:HP) (l:List Value) (t:TypeId) (n:Nat) [h:Sat w0 w P] [s:Size w n]:Sat w0 (w.alloc (.cells l.toArray t)) (pts n 0 l*P):=s.eq ▸ h.alloc l.toArray t
def any:HP:=fun _=>True
theorem Sat.toAny {w0 w:World} {P F:HP} (hs:Sat w0 w (P*F)):Sat w0 w (P*any):=((hs.perm (star_comm P F)).wk fun _ _=>trivial).perm (star_comm any P)
class PullN (P:HP) (κ:IntKind) (v:Value) (l:outParam (List Int)) (F:outParam HP):Prop where
 eq:P=numsP κ v l*F
instance (priority:=2000) PullN.here (κ:IntKind) (v:Value) (l:List Int) (F:HP):PullN (numsP κ v l*F) κ v l F:=⟨rfl⟩
instance (priority:=100) PullN.last (κ:IntKind) (v:Value) (l:List Int):PullN (numsP κ v l) κ v l emp:=⟨(star_emp _).symm⟩
instance (priority:=1000) PullN.right (A G F:HP) (κ:IntKind) (v:Value) (l:List Int) [h:PullN G κ v l F]:PullN (A*G) κ v l (A*F):=⟨by rw [h.eq];ac_rfl⟩
instance (priority:=900) PullN.left (A G F:HP) (κ:IntKind) (v:Value) (l:List Int) [h:PullN A κ v l F]:PullN (A*G) κ v l (F*G):=⟨by rw [h.eq];ac_rfl⟩
theorem Sat.nums_cell {w0 w:World} {F:HP} {κ:IntKind} {g off cap n:Nat} {l:List Int} (hs:Sat w0 w (numsP κ (.slice (some ⟨g,off,none⟩) n cap) l*F)) {k:Nat} (hk:k<l.length) :
  w.cell? ⟨g,off+k,none⟩=some (.int κ (l.getD k 0))∧w.frozen? ⟨g,off+k,none⟩=false:=by
 rcases hs.slice_out with ⟨e,_⟩ | ⟨g',off',cap',sp,e,_,_,hx,_,hs'⟩
 ·cases e
 ·simp only [Value.slice.injEq,Option.some.injEq,Addr.mk.injEq] at e;obtain ⟨⟨rfl,rfl,_⟩,_,_⟩:=e;exact pts_split hs' (by rw [List.getElem?_append_left (by simpa using hk)];exact getElem?_map_int κ hk)
instance (priority:=1200) Cell.nums (κ:IntKind) (g off n cap k:Nat) (l:List Int) [h:Lt k l.length]:Cell (numsP κ (.slice (some ⟨g,off,none⟩) n cap) l) g (off+k) (.int κ (l.getD k 0)) :=
 ⟨fun hs=>(hs.nums_cell h.lt).1,fun hs=>(hs.nums_cell h.lt).2⟩
instance (priority:=1200) Cell.nums0 (κ:IntKind) (g off n cap:Nat) (l:List Int) [h:Lt 0 l.length]:Cell (numsP κ (.slice (some ⟨g,off,none⟩) n cap) l) g off (.int κ (l.getD 0 0)) :=
 ⟨fun hs=>(hs.nums_cell (k:=0) h.lt).1,fun hs=>(hs.nums_cell (k:=0) h.lt).2⟩
theorem Sat.nums_form {w0 w:World} {F:HP} {κ:IntKind} {v:Value} {l:List Int} (hs:Sat w0 w (numsP κ v l*F)):∃ g off cap,l.length≤cap∧cap≤maxLen∧(l≠[]→v=.slice (some ⟨g,off,none⟩) l.length cap)∧(l=[]→∃ a,v=.slice a 0 cap):=by
 rcases hs.slice_out with ⟨rfl,h0,h1,_⟩ | ⟨g,off,cap,sp,rfl,hc,hcm,hx,hsp,hs'⟩
 ·exact ⟨0,0,0,by omega,Nat.zero_le _,fun h=>absurd (List.eq_nil_of_length_eq_zero h0) h,fun _=>⟨_,rfl⟩⟩
 ·exact ⟨g,off,cap,hc,hcm,fun _=>rfl,fun h=>by subst h;exact ⟨_,rfl⟩⟩
class Old (w0:World) (b o:Nat) (v:outParam Value):Prop where
 old:w0.cell? ⟨b,o,none⟩=some v
theorem own_old {w0 w:World} {P:HP} {b o:Nat} {v:Value} [h:Sat w0 w P] [c:Old w0 b o v]:w.cell? ⟨b,o,none⟩=some v:=h.keep c.old
class OldN (w0:World) (κ:outParam IntKind) (b off:Nat) (l:outParam (List Int)):Prop where
 old:∀ j,j<l.length→w0.cell? ⟨b,off+j,none⟩=some (.int κ (l.getD j 0))
instance Old.num (w0:World) (κ:IntKind) (b off k:Nat) (l:List Int) [c:OldN w0 κ b off l] [h:Lt k l.length]:Old w0 b (off+k) (.int κ (l.getD k 0)):=⟨c.old k h.lt⟩
attribute [go_sem] own_cell own_free own_old
class Frm (P F:HP):Prop where
 out:∀ {w0 w Q},Sat w0 w (Q*P)→Sat w0 w (Q*F)
instance (priority:=2000) Frm.refl (F:HP):Frm F F:=⟨fun h=>h⟩
instance (priority:=1000) Frm.right (A G F:HP) [h:Frm G F]:Frm (A*G) F:=⟨fun {w0 w Q} hs=>h.out (hs.perm (by ac_rfl:_=A*(Q*G))).drop⟩
instance (priority:=900) Frm.left (A G F:HP) [h:Frm A F]:Frm (A*G) F:=⟨fun {w0 w Q} hs=>h.out (hs.perm (by ac_rfl:_=G*(Q*A))).drop⟩
instance (priority:=1500) Frm.pull (P A F G:HP) [h:Pull P A F] [f:Frm F G]:Frm P (A*G):=⟨fun {w0 w Q} hs=>(f.out (Q:=Q*A) (hs.perm (by rw [h.eq];ac_rfl))).perm (by ac_rfl)⟩
instance (priority:=3000) Frm.any (P:HP):Frm P any:=⟨fun hs=>hs.toAny⟩
instance (priority:=2900) Frm.emp (P:HP):Frm P emp:=⟨fun hs=>hs.fst.perm (star_emp _).symm⟩
theorem Sat.left {w0 w:World} {P F:HP} (hs:Sat w0 w P) [f:Frm P F]:Sat w0 w F:=(f.out (Q:=emp) (hs.perm (emp_star P).symm)).perm (emp_star F)
theorem own_any {w0 w:World} {P Q F:HP} [hs:Sat w0 w P] [h:Pull P Q F]:Sat w0 w (Q*any):=(hs.perm h.eq).toAny
theorem own_any2 {w0 w:World} {P A B F1 F2:HP} [hs:Sat w0 w P] [h:Pull P A F1] [h2:Pull F1 B F2]:Sat w0 w (A*(B*any)) :=
 ((hs.perm (by rw [h.eq,h2.eq,star_assoc]:P=A*B*F2)).toAny).perm (star_assoc _ _ _)
theorem own_left {w0 w:World} {P F:HP} [hs:Sat w0 w P] [f:Frm P F]:Sat w0 w F:=hs.left
class Rd (w:World) (κ:IntKind) (v:Value) (l:outParam (List Int)):Prop where
 rd:RdN κ w v l
instance (priority:=1000) Rd.own (w0 w:World) (P:HP) (κ:IntKind) (v:Value) (l:List Int) (F:HP) [h:Sat w0 w P] [p:PullN P κ v l F]:Rd w κ v l:=⟨(h.perm p.eq).rdN⟩
instance (priority:=1100) Rd.one (w:World) (κ:IntKind) (x:Int) (t:TypeId) (n:Nat) [s:Size w n]:Rd (w.alloc (.cells [Value.int κ x].toArray t)) κ (.slice (some ⟨n,0,none⟩) 1 1) [x]:=⟨s.eq ▸ rdN_lit κ [x] w t (by simp [maxLen])⟩
theorem rd {w:World} {κ:IntKind} {v:Value} {l:List Int} [h:Rd w κ v l]:RdN κ w v l:=h.rd
theorem numsP_nil (κ:IntKind):numsP κ (.slice none 0 0) []=emp:=HP.same fun h=>by
 constructor
 ·intro p
  rcases p with ⟨_,_,_,e⟩ | ⟨g,off,cap,sp,e,_⟩
  ·exact e
  ·cases e
 ·intro e;exact Or.inl ⟨rfl,rfl,rfl,e⟩
theorem numsP_empty (κ:IntKind) (g o:Nat):numsP κ (.slice (some ⟨g,o,none⟩) 0 0) []=emp:=HP.same fun h=>by
 constructor
 ·intro p
  rcases p with ⟨e,_⟩ | ⟨g',off,cap,sp,e,_,_,hx,hsp,p⟩
  ·cases e
  ·simp only [Value.slice.injEq] at e;obtain ⟨_,_,rfl⟩:=e;have h1:([]:List Int).map (Value.int κ)++sp=[]:=by simpa using hsp
   rw [h1,pts_nil] at p;exact p
 ·intro e;refine Or.inr ⟨g,o,0,[],rfl,Nat.le_refl _,Nat.zero_le _,rfl,rfl,?_⟩;rw [show ([]:List Int).map (Value.int κ)++[]=[] from rfl,pts_nil];exact e
instance (priority:=50) PullN.nil (P:HP) (κ:IntKind):PullN P κ (.slice none 0 0) [] P:=⟨by rw [numsP_nil,emp_star]⟩
instance (priority:=50) PullN.empty (P:HP) (κ:IntKind) (g o:Nat):PullN P κ (.slice (some ⟨g,o,none⟩) 0 0) [] P:=⟨by rw [numsP_empty,emp_star]⟩
theorem RdN.len_eq {κ:IntKind} {w:World} {ad:Option Addr} {n c:Nat} {l:List Int} (h:RdN κ w (.slice ad n c) l):n=l.length:=by
 obtain ⟨a,cap,b,o,e,_⟩:=h;simp only [Value.slice.injEq] at e;exact e.2.1
class Elem (P:Program) (t:TypeId) (κ:outParam IntKind) (e bytes:outParam Nat) (z:outParam Value):Prop where
 el:ElemT P t e 1 bytes z
 le:bytes≤8
theorem wp_append_nums {P:Program} {w0 w:World} {P0 F:HP} {t e bytes:Nat} {z:Value} {κ:IntKind} {l l2:List Int} {K:Act→World→Prop} {o:Oper} {a:Act} {Q:Exit→Act→World→Prop} {s x:Operand} {ad sa:Option Addr} {m c sn sc:Nat}
  (ho:o.op=.call { callee:=.builtin .append,args:=#[s,x],argTypes:=#[t,t] }) [E:Elem P t κ e bytes z]
  (hv:a.eval s=.slice sa sn sc) (hx:a.eval x=.slice ad m c) [hs:Sat w0 w P0] [hp:PullN P0 κ (.slice sa sn sc) l F] [hr:Rd w κ (.slice ad m c) l2]
  (h63:sn+m≤1000000000)
  (h:∀ a' cap' L w',Hid (L=l++l2)→L.length≤sn+m→sn+m≤L.length→Sat w0 w' (numsP κ (.slice a' L.length cap') L*F)→w.heap.size≤w'.heap.size→K (a.put o.dst (.slice a' L.length cap')) w'):o.wp P a w K Q:=by
 have hn:=hr.rd.news;have hml:m=l2.length:=hn.1;have hsl:sn=l.length:=((hs.perm hp.eq).rdN (F:=F)).len_eq;have hs1:Sat w0 w (numsP κ (.slice sa sn sc) l*F):=hs.perm hp.eq;have hbb:(l.length+m)*bytes≤140737488355328:=Nat.le_trans (Nat.mul_le_mul (show l.length+m≤1000000000 by omega) E.le) (by decide);refine wp_append_sat s x ho E.el hv hs1 ad m c (l2.map (Value.int κ)) hx (by simp [hml]) hn.2.1 hn.2.2 (oneCell_ints l2) (by unfold maxLen;omega) hbb ?_;intro v' w' hs' hz;have hs2:Sat w0 w' (numsP κ v' (l++l2)*F):=by
  unfold numsP;rw [List.length_append,List.map_append,← hml];exact hs'
 obtain ⟨a',cap',rfl⟩:=hs2.slice_form;exact h a' cap' _ w' rfl (by simp;omega) (by simp;omega) hs2 hz
theorem RdN.part {κ:IntKind} {w:World} {g off n c:Nat} {l:List Int} (h:RdN κ w (.slice (some ⟨g,off,none⟩) n c) l) (i m:Nat) (hi:i+m≤l.length) (c':Nat) (h1:m≤c') (h2:c'≤maxLen) :
  RdN κ w (.slice (some ⟨g,off+i,none⟩) m c') ((l.drop i).take m):=by
 obtain ⟨a,cap,b,o,e,h3,h4,h5,h6⟩:=h;simp only [Value.slice.injEq] at e;obtain ⟨rfl,rfl,rfl⟩:=e;have hl:((l.drop i).take m).length=m:=by simp;omega
 by_cases h0:m=0
 ·subst h0;exact ⟨_,c',g,off+i,by rw [hl],by rw [hl];omega,h2,fun h=>absurd (by simp) h,fun j hj=>absurd hj (by simp)⟩
 ·have hb:=h5 (by rintro rfl;simp at hi;omega);simp only [Option.some.injEq,Addr.mk.injEq] at hb;obtain ⟨rfl,rfl,_⟩:=hb;refine ⟨_,c',g,off+i,by rw [hl],by rw [hl];omega,h2,fun _=>rfl,fun j hj=>?_⟩;rw [hl] at hj;have:=h6 (i+j) (by omega);rw [← Nat.add_assoc] at this;rw [this]
  congr 2
  simp [List.getD,hj]
theorem wpList_append_nums {P:Program} {w0 w:World} {P0 F:HP} {t e bytes:Nat} {z:Value} {κ:IntKind} {l l2:List Int} {ops:Array Oper} {rest:List Oper} {o:Oper} {a:Act} {Q:Exit→Act→World→Prop} {s x:Operand} {ad sa:Option Addr} {m c sn sc:Nat}
  (hgd:o.guard=none) (ho:o.op=.call { callee:=.builtin .append,args:=#[s,x],argTypes:=#[t,t] }) [E:Elem P t κ e bytes z]
  (hv:a.eval s=.slice sa sn sc) (hx:a.eval x=.slice ad m c) [hs:Sat w0 w P0] [hp:PullN P0 κ (.slice sa sn sc) l F] [hr:Rd w κ (.slice ad m c) l2]
  (h63:sn+m≤1000000000)
  (h:∀ a' cap' L w',Hid (L=l++l2)→L.length≤sn+m→sn+m≤L.length→Sat w0 w' (numsP κ (.slice a' L.length cap') L*F)→w.heap.size≤w'.heap.size→wpList P ops Q rest (a.put o.dst (.slice a' L.length cap')) w'):wpList P ops Q (o::rest) a w :=
 wpList_plain hgd fun _ hK=>wp_append_nums ho hv hx h63 fun a' cap' L w' h1 h2 h3 h4 h5=>hK _ _ (h a' cap' L w' h1 h2 h3 h4 h5)
theorem RdN.cut {κ:IntKind} {w:World} {ad:Option Addr} {n c:Nat} {l:List Int} (h:RdN κ w (.slice ad n c) l) (i m c':Nat) (hi:i+m≤l.length) (h1:m≤c') (h2:c'≤maxLen) :
  RdN κ w (.slice (ad.map (·.add i)) m c') ((l.drop i).take m):=by
 obtain ⟨a,cap,b,o,e,h3,h4,h5,h6⟩:=h;simp only [Value.slice.injEq] at e;obtain ⟨rfl,rfl,rfl⟩:=e;have hl:((l.drop i).take m).length=m:=by simp;omega
 by_cases h0:m=0
 ·subst h0;exact ⟨_,c',0,0,by rw [hl],by rw [hl];omega,h2,fun h=>absurd (by simp) h,fun j hj=>absurd hj (by simp)⟩
 ·have hb:=h5 (by rintro rfl;simp at hi;omega);subst hb;refine ⟨_,c',b,o+i,by rw [hl],by rw [hl];omega,h2,fun _=>by simp [Addr.add],fun j hj=>?_⟩;rw [hl] at hj;have:=h6 (i+j) (by omega);rw [← Nat.add_assoc] at this;rw [this]
  congr 2
  simp [List.getD,hj]
theorem RdN.caps {κ:IntKind} {w:World} {ad:Option Addr} {n c:Nat} {l:List Int} (h:RdN κ w (.slice ad n c) l):n=l.length∧n≤c∧c≤maxLen:=by
 obtain ⟨a,cap,b,o,e,h3,h4,_⟩:=h;simp only [Value.slice.injEq] at e;obtain ⟨rfl,rfl,rfl⟩:=e;exact ⟨rfl,h3,h4⟩
section
variable {P:Program} {w:World} {t e bytes:Nat} {z:Value} {κ:IntKind} {l:List Int} {ops:Array Oper} {rest:List Oper} {o:Oper} {a:Act} {Q:Exit→Act→World→Prop} {s lo hi:Operand} {sa:Option Addr} {sn sc:Nat} {i j:Int}
end
theorem quiet_eq {P:Program} {f:FuncId} {args:Array Value} {w:World} {n:Nat} {v:Value}
  (h:Calls P f args (w.drewN n) fun e w'=>e=.returned v∧w.drewN n=w'):Calls P f args (w.drewN n) fun e w''=>e=.returned v∧∃ m,w''=w.drewN m :=
 h.mono fun _ _ ⟨he,hm⟩=>⟨he,n,hm.symm⟩
theorem wp_gen {P:Program} {c:Code} {Q:Exit→Act→World→Prop} {a:Act} {w0 w:World} {R:HP} [h:Sat w0 w R] (k:∀ wx,Sat w0 wx R→c.wp P Q a wx):c.wp P Q a w:=k w h
end Go.Sx
