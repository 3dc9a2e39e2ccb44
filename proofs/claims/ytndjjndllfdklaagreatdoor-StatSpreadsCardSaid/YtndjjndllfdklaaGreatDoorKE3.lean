/-
  Parts of the proof: VmJ VmK VmL VmM VmN VmO.
-/
import Derived.Scope
import Derived.Deep.LoopGhost
import Derived.Test.YtndjjndllfdklaaGreatDoorKE2
set_option linter.unusedVariables false
set_option linter.unusedSimpArgs false
set_option maxHeartbeats 32000000
set_option maxRecDepth 100000
namespace Go.Vm
open Go.RowKit
noncomputable section
def ancOf (acc:List Nat):List Edge→Nat
 | []=>0
 | e::l=>match Region.binds .any e with
  | true=>(2^e.on ||| (acc[e.on]?).getD 0) ||| ancOf acc l
  | false=>ancOf acc l
def ancs:List Oper→List Nat→List Nat
 | [],acc=>acc
 | o::l,acc=>ancs l (acc++[ancOf acc o.after.toList])
def lk (t:Nat):List (Nat×Nat)→Option Nat
 | []=>none
 | (d,j)::l=>match Nat.beq d t with
  | true=>some j
  | false=>lk t l
def wrs:List Oper→Nat→List (Nat×Nat)
 | [],_=>[]
 | o::l,i=>match o.dst with
  | some d=>(d,i)::wrs l (i+1)
  | none=>wrs l (i+1)
def uniq:List (Nat×Nat)→Bool
 | []=>true
 | (d,_)::l=>match lk d l with
  | none=>uniq l
  | some _=>false
structure St where
 o:Oper
 an:Nat
 cl:Nat
 rk:Nat
def free (W:List (Nat×Nat)):Operand→Bool
 | .tmp t=>(lk t W).isNone
 | _=>true
def mv (Z:List Oper) (j:Nat):Option Operand :=
 match Z[j]? with
 | some o=>match o.op,o.guard with
  | .move x,none=>some x
  | _,_=>none
 | none=>none
def fr (W:List (Nat×Nat)) (Z:List Oper):Operand→Bool
 | .tmp t=>match lk t W with
  | none=>true
  | some j=>match mv Z j with
   | some x=>free W x
   | none=>false
 | _=>true
def clsOf (W:List (Nat×Nat)) (Z:List Oper) (o:Oper):Nat :=
 match o.op,o.guard with
 | .alloc _,none=>3
 | .makeSlice _ l c,none=>match fr W Z l && fr W Z c with
  | true=>3
  | false=>2
 | op,_=>kd op
def sts (W:List (Nat×Nat)) (Z:List Oper):List Oper→List Nat→Nat→List St
 | o::os,a::qs,r=>⟨o,a,clsOf W Z o,r⟩::sts W Z os qs (match Nat.beq (clsOf W Z o) 2 with
  | true=>r+1
  | false=>r)
 | _,_,_=>[]
def tb (x i:Nat):Bool :=
 match Nat.land (Nat.shiftRight x i) 1 with
 | 0=>false
 | _=>true
theorem tb_eq (x i:Nat):tb x i=x.testBit i:=by
 have h:Nat.land (Nat.shiftRight x i) 1=(x >>> i) &&& 1:=rfl;unfold tb;rw [h,Nat.testBit,Nat.and_comm 1]
 split
 ·rename_i e;rw [e];rfl
 ·rename_i n e
  cases hn:(x >>> i) &&& 1 with
  | zero=>exact absurd hn e
  | succ k=>rfl
def chain:List St→Nat→Option Nat→Bool
 | [],_,_=>true
 | s::l,i,p=>match Nat.beq s.cl 2 with
  | true=>match p with
   | none=>chain l (i+1) (some i)
   | some j=>match tb s.an j with
    | true=>chain l (i+1) (some i)
    | false=>false
  | false=>chain l (i+1) p
def wl:List St→Nat→List (Nat×St)
 | [],_=>[]
 | s::l,u=>match Nat.beq s.cl 2 with
  | true=>(u,s)::wl l (u+1)
  | false=>wl l (u+1)
def excl (i a k:Nat):List (Nat×St)→Bool
 | []=>false
 | (u,s)::l=>match (tb a u && Nat.ble k s.rk) || (tb s.an i && Nat.blt s.rk k) with
  | true=>true
  | false=>excl i a k l
def okE:List Oper→Nat→Bool
 | [],_=>true
 | o::l,i=>match o.after.toList.all fun e=>!Region.binds .any e || Nat.blt e.on i with
  | true=>okE l (i+1)
  | false=>false
structure Lay where
 W:List (Nat×Nat)
 A:List Nat
 S:List St
def layOf (ops:List Oper):Option Lay :=
 let W:=wrs ops 0
 match uniq W with
 | true =>
  let A:=ancs ops []
  let S:=sts W ops ops A 0
  match chain S 0 none && Nat.beq S.length ops.length && okE ops 0 with
  | true=>some ⟨W,A,S⟩
  | false=>none
 | false=>none
theorem testBit_or {a b j:Nat}:(a ||| b).testBit j=(a.testBit j || b.testBit j):=Nat.testBit_or a b j
theorem ancOf_spec:∀ (l:List Edge) (acc:List Nat) (j:Nat), (ancOf acc l).testBit j=true→∃ e∈l, Region.binds .any e=true∧(j=e.on∨((acc[e.on]?).getD 0).testBit j=true)
  | [], acc, j, h => by simp [ancOf] at h
  | e::l, acc, j, h => by
    unfold ancOf at h
    split at h
    · rename_i hb
      rw [testBit_or, testBit_or, Bool.or_eq_true, Bool.or_eq_true] at h
      rcases h with (h | h) | h
      · exact ⟨e, by simp, hb, .inl (by rw [Nat.testBit_two_pow] at h; have h:e.on=j := by simpa using h
                                        exact h.symm)⟩
      · exact ⟨e, by simp, hb, .inr h⟩
      · obtain ⟨e', a, b⟩ := ancOf_spec l acc j h
        exact ⟨e', List.mem_cons_of_mem _ a, b⟩
    · obtain ⟨e', a, b⟩ := ancOf_spec l acc j h
      exact ⟨e', List.mem_cons_of_mem _ a, b⟩
theorem ancs_spec:∀ (l:List Oper) (acc:List Nat), ∃ r,ancs l acc=acc++r∧r.length=l.length∧∀ i o,l[i]?=some o→∀ j,(((acc++r)[acc.length+i]?).getD 0).testBit j=true→∃ e∈o.after.toList,Region.binds .any e=true∧(j=e.on∨(((acc++r)[e.on]?).getD 0).testBit j=true)
 | [],acc=>⟨[],by simp [ancs],rfl,by simp⟩
 | o::l,acc=>by
  obtain ⟨r,e1,e2,e3⟩:=ancs_spec l (acc++[ancOf acc o.after.toList]);refine ⟨ancOf acc o.after.toList::r,by rw [ancs,e1];simp,by simp [e2],fun i o' ho j hj=>?_⟩
  cases i with
  | zero =>
   simp only [List.getElem?_cons_zero,Option.some.injEq] at ho;subst ho;simp only [Nat.add_zero,List.getElem?_append_right (Nat.le_refl _),Nat.sub_self,List.getElem?_cons_zero,Option.getD_some] at hj;obtain ⟨e,a,b,c⟩:=ancOf_spec _ _ _ hj;refine ⟨e,a,b,c.imp id fun h=>?_⟩
   by_cases hlt:e.on<acc.length
   ·rw [List.getElem?_append_left hlt];exact h
   ·rw [List.getElem?_eq_none (Nat.le_of_not_lt hlt)] at h;simp at h
  | succ i =>
   have h1:=e3 i o' (by simpa using ho) j;simp only [List.append_assoc,List.cons_append,List.nil_append,List.length_append,List.length_cons,List.length_nil] at h1;rw [show acc.length+(0+1)+i=acc.length+(i+1) by omega] at h1;exact h1 hj
theorem sts_spec (W:List (Nat×Nat)) (Z:List Oper):∀ (os:List Oper) (qs:List Nat) (r i:Nat) (s:St),(sts W Z os qs r)[i]?=some s→os[i]?=some s.o∧qs[i]?=some s.an∧s.cl=clsOf W Z s.o
 | [],_,_,_,_,h=>by simp [sts] at h
 | _::_,[],_,_,_,h=>by simp [sts] at h
 | o::os,a::qs,r,i,s,h=>by
  unfold sts at h
  cases i with
  | zero=>simp only [List.getElem?_cons_zero,Option.some.injEq] at h;subst h;exact ⟨rfl,rfl,rfl⟩
  | succ i=>simp only [List.getElem?_cons_succ] at h ⊢;exact sts_spec W Z os qs _ i s h
theorem chain_spec (W:List (Nat×Nat)) (Z:List Oper):∀ (os:List Oper) (qs:List Nat) (r n:Nat) (p:Option Nat),chain (sts W Z os qs r) n p=true→∀ (i:Nat) (s:St),(sts W Z os qs r)[i]?=some s→s.cl=2 →
  r≤s.rk∧((s.rk=r∧∀ j,p=some j→s.an.testBit j=true)∨∃ (u:Nat) (t:St),(sts W Z os qs r)[u]?=some t∧t.cl=2∧t.rk+1=s.rk∧s.an.testBit (n+u)=true)
 | [],_,_,_,_,_,_,_,h,_=>by simp [sts] at h
 | _::_,[],_,_,_,_,_,_,h,_=>by simp [sts] at h
 | o::os,a::qs,r,n,p,hc,i,s,h,h2=>by
  unfold sts at h hc;unfold chain at hc;dsimp only at hc
  by_cases hb:Nat.beq (clsOf W Z o) 2=true
  ·rw [hb] at hc h;dsimp only at hc h;have hcl:clsOf W Z o=2:=Nat.eq_of_beq_eq_true hb;have hp:(∀ j,p=some j→a.testBit j=true)∧chain (sts W Z os qs (r+1)) (n+1) (some n)=true:=by
    cases p with
    | none=>exact ⟨by simp,hc⟩
    | some j =>
     dsimp only at hc
     split at hc
     ·rename_i ht;exact ⟨fun k e=>by cases e;rw [← tb_eq];exact ht,hc⟩
     ·cases hc
   cases i with
   | zero=>simp only [List.getElem?_cons_zero,Option.some.injEq] at h;subst h;exact ⟨Nat.le_refl _,.inl ⟨rfl,hp.1⟩⟩
   | succ i =>
    simp only [List.getElem?_cons_succ] at h;obtain ⟨k1,k2⟩:=chain_spec W Z os qs (r+1) (n+1) (some n) hp.2 i s h h2;refine ⟨by omega,.inr ?_⟩;have e0:(sts W Z (o::os) (a::qs) r)=⟨o,a,clsOf W Z o,r⟩::sts W Z os qs (r+1):=by show _::sts W Z os qs _=_;rw [hb]
    rw [e0]
    rcases k2 with ⟨k2,k3⟩ | ⟨u,t,k2,k3,k4,k5⟩
    ·exact ⟨0,_,rfl,hcl,k2.symm,by rw [Nat.add_zero];exact k3 n rfl⟩
    ·exact ⟨u+1,t,by simpa using k2,k3,k4,by rw [show n+(u+1)=n+1+u by omega];exact k5⟩
  ·have hb:=Bool.eq_false_iff.2 hb;rw [hb] at hc h;dsimp only at hc h;have e0:(sts W Z (o::os) (a::qs) r)=⟨o,a,clsOf W Z o,r⟩::sts W Z os qs r:=by show _::sts W Z os qs _=_;rw [hb]
   cases i with
   | zero =>
    simp only [List.getElem?_cons_zero,Option.some.injEq] at h;subst h;dsimp only at h2;rw [h2] at hb;cases hb
   | succ i =>
    simp only [List.getElem?_cons_succ] at h;obtain ⟨k1,k2⟩:=chain_spec W Z os qs r (n+1) p hc i s h h2;refine ⟨k1,k2.imp id ?_⟩;rintro ⟨u,t,k2,k3,k4,k5⟩;exact ⟨u+1,t,by rw [e0];simpa using k2,k3,k4,by rw [show n+(u+1)=n+1+u by omega];exact k5⟩
theorem wl_spec:∀ (l:List St) (n u:Nat) (s:St),(u,s)∈wl l n→∃ i,u=n+i∧l[i]?=some s∧s.cl=2
 | [],_,_,_,h=>by simp [wl] at h
 | t::l,n,u,s,h=>by
  unfold wl at h
  split at h
  ·rename_i hb
   rcases List.mem_cons.1 h with e | h
   ·cases e;exact ⟨0,rfl,rfl,Nat.eq_of_beq_eq_true hb⟩
   ·obtain ⟨i,a,b,c⟩:=wl_spec l (n+1) u s h;exact ⟨i+1,by omega,by simpa using b,c⟩
  ·obtain ⟨i,a,b,c⟩:=wl_spec l (n+1) u s h;exact ⟨i+1,by omega,by simpa using b,c⟩
theorem excl_mem (i a k:Nat):∀ (l:List (Nat×St)),excl i a k l=true→∃ u s,(u,s)∈l∧((a.testBit u=true∧k≤s.rk)∨(s.an.testBit i=true∧s.rk<k))
 | [],h=>by simp [excl] at h
 | (u,s)::l,h=>by
  unfold excl at h
  split at h
  ·rename_i hb
   simp only [Bool.and_eq_true,Bool.or_eq_true,tb_eq] at hb;refine ⟨u,s,by simp,?_⟩
   rcases hb with ⟨a1,a2⟩ | ⟨a1,a2⟩
   ·exact .inl ⟨a1,Nat.le_of_ble_eq_true a2⟩
   ·exact .inr ⟨a1,blt_lt a2⟩
  ·obtain ⟨u',t,e1,e2⟩:=excl_mem i a k l h;exact ⟨u',t,List.mem_cons_of_mem _ e1,e2⟩
theorem excl_spec (i a k:Nat) (S:List St) (h:excl i a k (wl S 0)=true):∃ (u:Nat) (s:St),S[u]?=some s∧s.cl=2∧((a.testBit u=true∧k≤s.rk)∨(s.an.testBit i=true∧s.rk<k)):=by
 obtain ⟨u,s,h1,h2⟩:=excl_mem i a k _ h;obtain ⟨j,e1,e2,e3⟩:=wl_spec _ _ _ _ h1;rw [Nat.zero_add] at e1;subst e1;exact ⟨u,s,e2,e3,h2⟩
theorem okE_spec:∀ (l:List Oper) (n:Nat),okE l n=true→∀ (i:Nat) (o:Oper),l[i]?=some o→∀ e∈o.after.toList,Region.binds .any e=true→e.on<n+i
 | [],_,_,_,_,h,_,_,_=>by simp at h
 | o::l,n,h,i,o',ho,e,he,hb=>by
  unfold okE at h
  split at h
  ·rename_i h1
   cases i with
   | zero =>
    simp only [List.getElem?_cons_zero,Option.some.injEq] at ho;subst ho;have:=List.all_eq_true.1 h1 e he;rw [hb] at this;exact blt_lt (by simpa using this)
   | succ i =>
    have:=okE_spec l (n+1) h i o' (by simpa using ho) e he hb;omega
  ·cases h
theorem lk_wrs:∀ (l:List Oper) (n t j:Nat),lk t (wrs l n)=some j→∃ i o,j=n+i∧l[i]?=some o∧o.dst=some t
 | [],n,t,j,h=>by simp [wrs,lk] at h
 | o::l,n,t,j,h=>by
  unfold wrs at h
  split at h
  ·rename_i d hd
   unfold lk at h
   split at h
   ·rename_i hb
    cases h
    have:=Nat.eq_of_beq_eq_true hb;subst this;exact ⟨0,o,rfl,rfl,hd⟩
   ·obtain ⟨i,o',a,b,c⟩:=lk_wrs l (n+1) t j h;exact ⟨i+1,o',by omega,by simpa using b,c⟩
  ·obtain ⟨i,o',a,b,c⟩:=lk_wrs l (n+1) t j h;exact ⟨i+1,o',by omega,by simpa using b,c⟩
theorem wrs_lk:∀ (l:List Oper) (n i:Nat) (o:Oper) (t:Nat),uniq (wrs l n)=true→l[i]?=some o→o.dst=some t→lk t (wrs l n)=some (n+i)
 | [],_,_,_,_,_,h,_=>by simp at h
 | o::l,n,i,o',t,hu,h,hd=>by
  unfold wrs at hu ⊢
  cases i with
  | zero =>
   simp only [List.getElem?_cons_zero,Option.some.injEq] at h;subst h;rw [hd];dsimp only;unfold lk;rw [show Nat.beq t t=true from Nat.beq_refl t];rfl
  | succ i =>
   simp only [List.getElem?_cons_succ] at h
   split at hu
   ·rename_i d hd'
    unfold uniq at hu
    split at hu
    ·rename_i hn
     have ih:=wrs_lk l (n+1) i o' t hu h hd;unfold lk
     split
     ·rename_i hb
      have:=Nat.eq_of_beq_eq_true hb;subst this;rw [ih] at hn;cases hn
     ·rw [ih];congr 1;omega
    ·cases hu
   ·rename_i hd'
    have ih:=wrs_lk l (n+1) i o' t hu h hd;rw [ih];congr 1;omega
end
noncomputable section
def veq1:Value→Value→Bool
 | .bool a,.bool b=>a==b
 | .int j a,.int k b=>decide (j=k) && decide (a=b)
 | .pointer none,.pointer none=>true
 | .pointer (some ⟨b,o,none⟩),.pointer (some ⟨c,p,none⟩)=>Nat.beq b c && Nat.beq o p
 | .slice none l c,.slice none m d=>Nat.beq l m && Nat.beq c d
 | .slice (some ⟨b,o,none⟩) l x,.slice (some ⟨c,p,none⟩) m y=>Nat.beq b c && Nat.beq o p && Nat.beq l m && Nat.beq x y
 | .map none,.map none=>true
 | .map (some a),.map (some b)=>Nat.beq a b
 | _,_=>false
def veqL:List Value→List Value→Bool
 | [],[]=>true
 | a::l,b::m=>veq1 a b && veqL l m
 | _,_=>false
def veq:Value→Value→Bool
 | .agg a,.agg b=>veqL a.toList b.toList
 | a,b=>veq1 a b
theorem veq1_eq {a b:Value} (h:veq1 a b=true):a=b:=by
 unfold veq1 at h
 split at h<;>(try simp only [Bool.and_eq_true,decide_eq_true_eq,beq_iff_eq,Nat.beq_eq] at h)
 ·rw [h]
 ·rw [h.1,h.2]
 ·rfl
 ·rw [h.1,h.2]
 ·rw [h.1,h.2]
 ·rw [h.1.1.1,h.1.1.2,h.1.2,h.2]
 ·rfl
 ·rw [h]
 ·cases h
theorem veqL_eq:∀ {l m:List Value},veqL l m=true→l=m
 | [],[],_=>rfl
 | a::l,b::m,h=>by
  unfold veqL at h;rw [Bool.and_eq_true] at h;rw [veq1_eq h.1,veqL_eq h.2]
 | [],_::_,h=>by cases h
 | _::_,[],h=>by cases h
theorem veq_eq {a b:Value} (h:veq a b=true):a=b:=by
 unfold veq at h
 split at h
 ·rw [Array.toList_inj.1 (veqL_eq h)]
 ·exact veq1_eq h
def evA (P:Program) (ev:Operand→Option Value) (id:Nat) (o:Oper):Option (Value×List Value) :=
 match o.op with
 | .alloc t=>match zeroOf P t with
  | some z=>some (ptrV id 0,z)
  | none=>none
 | .makeSlice t l c=>match P.underlying t,ev l,ev c with
  | some (.slice e),some (.int _ (.ofNat n)),some (.int _ (.ofNat k))=>match szOf P e,zeroOf P e,byOf P e with
   | some z,some zs,some y=>match Nat.beq zs.length z && Nat.blt 0 z && Nat.ble n k && Nat.ble (y*k) 281474976710656 && Nat.ble k 9223372036854775807 && Nat.blt k UNK with
    | true=>some (.slice (some ⟨id,0,none⟩) n k,zrep zs k)
    | false=>none
   | _,_,_=>none
  | _,_,_=>none
 | _=>none
theorem evA_run {P:Program} {ρ:Rho} {ev:Operand→Option Value} {ρe:Operand→Value} {w0 w:World} {M:Mem} (hM:MR w0 ρ M w) {o:Oper} {v:Value} {cs:List Value} {id:Nat} (he:∀ x u,ev x=some u→VR ρ u (ρe x)) (h:evA P ev id o=some (v,cs))
  (hid:ρ id=none) (hlt:id<M.nx) (hy:∀ y,M.bs.get id=some y→y=.cells cs.length (wr .e 0 cs)) :
  ∃ v' w' x,Gives P (execOp ρe o) w v' w'∧MR w0 (upd ρ id x) M w'∧VR (upd ρ id x) v v':=by
 obtain ⟨dst,op,type,pos,after,guard⟩:=o;have val:∀ {s:Sem Value} {op:Op},(execOp ρe ⟨dst,op,type,pos,after,guard⟩)=(do pure (.value (← s)))→∀ v' w',s.run P w=.ok v' w'→Gives P (execOp ρe ⟨dst,op,type,pos,after,guard⟩) w v' w':=fun e v' w' h=>.inl (by rw [e,Sem.run_bind,h];rfl);have fl:∀ (c:Array Value) (ty:TypeId),LR (SR ρ) cs c.toList→MR w0 (upd ρ id (w.heap.size,0,c.size)) M (w.alloc (.cells c ty)):=fun c ty hc=>by
  refine hM.fill hid hlt c ty fun y hg=>⟨_,_,hy y hg,by have:=hc.len;simp at this;omega,fun j v _ hv=>?_⟩
  rcases get_wr _ _ _ _ _ hv with ⟨i,e1,e2⟩ | ⟨_,e2⟩
  ·rw [Nat.zero_add] at e1;subst e1;obtain ⟨v',a,b⟩:=hc.get e2;exact ⟨v',by simpa using a,b⟩
  ·rw [T.get_e] at e2;cases e2
 unfold evA at h;dsimp only at h
 split at h
 ·rename_i t
  split at h
  ·rename_i z hz
   cases h
   obtain ⟨yzv,z1,z2,yz3,_⟩:=zeroOf_run (ρ:=ρ) hz;exact ⟨_,_,_,val (s:=Instr.alloc t true (.tuple #[])) rfl _ _ (by simp [Instr.alloc,yz3,newVar,newRow]),fl yzv.cells t (by rw [z1];exact z2),.one (.sc (SR.ptr (O:=0) (N:=yzv.cells.size) (if_pos rfl)))⟩
  ·cases h
 ·rename_i t l c
  split at h
  ·rename_i e kl n kc k ht hl hc
   split at h
   ·rename_i z zs y hz hzs hby
    split at h
    ·rename_i hq
     cases h
     simp only [Bool.and_eq_true] at hq;obtain ⟨⟨⟨⟨⟨q1,q2⟩,q3⟩,q4⟩,q5⟩,q6⟩:=hq;have q1:=Nat.eq_of_beq_eq_true q1;have q2:=blt_lt q2;have q3:=Nat.le_of_ble_eq_true q3;have q4:=Nat.le_of_ble_eq_true q4;have q5:=Nat.le_of_ble_eq_true q5;have q6:=blt_lt q6;obtain ⟨yzv,z1,z2,yz3,yz4,i,hi,hzi⟩:=zeroOf_run (ρ:=ρ) hzs;obtain ⟨i1,i2⟩:=szBy hi hz hby
     have e1:=(he _ _ hl).int_inv;have e2:=(he _ _ hc).int_inv;have hr:=run_make (P:=P) w t e i yzv ht hi hzi kl kc (n:Int) (k:Int) (Int.natCast_nonneg n) (by omega) (by rw [i2];have:=Int.ofNat_le.2 q4;rw [Int.natCast_mul] at this;exact this) (Int.ofNat_le.2 q5);simp only [Int.toNat_natCast] at hr;rw [i1] at hr;have hmk:(madeCells yzv.cells (k*z)).toList=zrep zs k:=by unfold madeCells;exact run_fillZero z1 q1 q2
     exact ⟨_,_,_,val (s:=Instr.makeSlice t (ρe l) (ρe c)) rfl _ _ (by rw [e1,e2];exact hr),fl _ e (by rw [hmk];exact zrep_LR yz4 k),.one (.sc (SR.sl (O:=0) (o:=0) (N:=(madeCells yzv.cells (k*z)).size) (if_pos rfl) q6))⟩
    ·cases h
   ·cases h
  ·cases h
 ·cases h
def bitOf (A:List Nat) (j i:Nat):Bool :=
 match A[j]? with
 | some x=>tb x i
 | none=>false
def opvD (W:List (Nat×Nat)) (A:List Nat) (an i:Nat) (rv:List Value) (n G:Nat) (tv0:T Value):Operand→Option Value
 | .tmp t=>match lk t W with
  | some j=>match tb an j && Nat.blt j n with
   | true=>rv[n-1-j]?
   | false=>match bitOf A j i with
    | true=>tv0.get t
    | false=>none
  | none=>tv0.get t
 | x=>opv G tv0 x
def opvA (W:List (Nat×Nat)) (Z:List Oper) (an G:Nat) (tv0:T Value):Operand→Option Value
 | .tmp t=>match lk t W with
  | none=>tv0.get t
  | some j=>match tb an j with
   | true=>match mv Z j with
    | some x=>match free W x with
     | true=>opv G tv0 x
     | false=>none
    | none=>none
   | false=>none
 | x=>opv G tv0 x
def hoist (P:Program) (ev0:Nat→Operand→Option Value) (base:Nat):List St→Nat→Mem→Option Mem
 | [],_,M=>some M
 | s::l,i,M=>match Nat.beq s.cl 3 with
  | true=>match evA P (ev0 s.an) (base+i) s.o with
   | some (_,cs)=>hoist P ev0 base l (i+1) (M.put (base+i) (.cells cs.length (wr .e 0 cs)))
   | none=>none
  | false=>hoist P ev0 base l (i+1) M
def stepV (P:Program) (cl:Cl) (ops:Array Oper) (ev ev0:Operand→Option Value) (id:Nat) (s:St) (M:Mem):Option (Value×Mem) :=
 match gd ops ev s.o with
 | none=>none
 | some false=>match Nat.beq s.cl 3 with
  | true=>none
  | false=>some (undef,M)
 | some true=>match s.cl with
  | 0=>match evP P ev s.o with
   | some v=>some (v,M)
   | none=>none
  | 1=>match evR P ev M s.o with
   | some v=>some (v,M)
   | none=>none
  | 2=>evOW P cl ev M s.o
  | 3=>match evA P ev0 id s.o with
   | some (v,_)=>some (v,M)
   | none=>none
  | _=>none
def pass (P:Program) (cl:Cl) (ops:Array Oper) (W:List (Nat×Nat)) (A:List Nat) (G:Nat) (tv0:T Value) (base:Nat):List St→Nat→List Value→List Mem→Option (List Value×List Mem)
 | [],_,rv,ns=>some (rv,ns)
 | s::l,i,rv,ns=>match ns with
  | []=>none
  | M::ns'=>match stepV P cl ops (opvD W A s.an i rv i G tv0) (opvA W ops.toList s.an G tv0) (base+i) s M with
   | none=>none
   | some (v,M')=>match Nat.beq s.cl 2 with
    | true=>pass P cl ops W A G tv0 base l (i+1) (v::rv) (M'::M::ns')
    | false=>pass P cl ops W A G tv0 base l (i+1) (v::rv) (M::ns')
def winK (P:Program) (ev:Operand→Option Value) (Q:List (Nat×St)) (s:St) (i:Nat) (v:Value):List Mem→Nat→Bool
 | [],_=>true
 | M::ns,k=>match Nat.beq k s.rk || excl i s.an k Q with
  | true=>winK P ev Q s i v ns (k+1)
  | false=>match evR P ev M s.o with
   | some u=>match veq u v with
    | true=>winK P ev Q s i v ns (k+1)
    | false=>false
   | none=>false
def win (P:Program) (ops:Array Oper) (W:List (Nat×Nat)) (A:List Nat) (G:Nat) (tv0:T Value) (Q:List (Nat×St)) (all:List Value) (n:Nat) (Ns:List Mem):List St→Nat→Bool
 | [],_=>true
 | s::l,i=>match Nat.beq s.cl 1 with
  | false=>win P ops W A G tv0 Q all n Ns l (i+1)
  | true=>match gd ops (opvD W A s.an i all n G tv0) s.o,all[n-1-i]? with
   | some false,_=>win P ops W A G tv0 Q all n Ns l (i+1)
   | some true,some v=>match winK P (opvD W A s.an i all n G tv0) Q s i v Ns 0 with
    | true=>win P ops W A G tv0 Q all n Ns l (i+1)
    | false=>false
   | _,_=>false
def win0 (P:Program) (ops:Array Oper) (W:List (Nat×Nat)) (A:List Nat) (G:Nat) (tv0:T Value) (S:List St) (all:List Value) (n:Nat) (Ns:List Mem) (Q:List (Nat×St)):Bool :=
 match Q with
 | []=>true
 | _=>win P ops W A G tv0 Q all n Ns.reverse S 0
def putAll (sz:Nat) (all:List Value) (n:Nat):List St→Nat→T Value→Option (T Value)
 | [],_,tv=>some tv
 | s::l,i,tv=>match all[n-1-i]? with
  | some v=>match putT sz tv s.o.dst v with
   | some tv'=>putAll sz all n l (i+1) tv'
   | none=>none
  | none=>none
def evDraw (P:Program) (cl:Cl) (G sz:Nat) (ops:Array Oper) (tv:T Value) (M:Mem):Option (T Value×Mem) :=
 match layOf ops.toList with
 | none=>none
 | some ⟨W,A,S⟩=>match hoist P (fun an=>opvA W ops.toList an G tv) M.nx S 0 ⟨M.bs,M.nx+S.length⟩ with
  | none=>none
  | some M0=>match pass P cl ops W A G tv M.nx S 0 [] [M0] with
   | some (all,Mm::ns)=>match win0 P ops W A G tv S all S.length (Mm::ns) (wl S 0),putAll sz all S.length S 0 tv with
    | true,some tv'=>some (tv',Mm)
    | _,_=>none
   | _=>none
end
noncomputable section
def nth {α:Type} (l:List α) (k:Nat):Option α:=match Nat.blt k l.length with
 | true=>l[l.length-1-k]?
 | false=>none
theorem nth_lt {α:Type} {l:List α} {k:Nat} (h:k<l.length):nth l k=l[l.length-1-k]?:=by
 unfold nth;rw [show Nat.blt k l.length=true by simp [Nat.blt];omega]
theorem nth_app {α:Type} {p l:List α} {k:Nat} (h:k<l.length):nth (p++l) k=nth l k:=by
 rw [nth_lt h,nth_lt (by simp;omega),List.length_append,List.getElem?_append_right (by omega)]
 congr 1;omega
theorem nth_cons {α:Type} (x:α) (l:List α):nth (x::l) l.length=some x:=by
 rw [nth_lt (by simp)];simp
section
variable {P:Program} {cl:Cl} {ops:Array Oper} {W:List (Nat×Nat)} {A:List Nat} {G:Nat} {tv0:T Value} {base:Nat}
theorem pass_spec (Z:List Oper):∀ (os:List Oper) (qs:List Nat) (r i:Nat) (rv:List Value) (ns:List Mem) (all:List Value) (Ns:List Mem),pass P cl ops W A G tv0 base (sts W Z os qs r) i rv ns=some (all,Ns)→ns.length=r+1→rv.length=i →
  (∃ p,all=p++rv∧p.length=(sts W Z os qs r).length)∧(∃ p,Ns=p++ns) ∧
  (∀ (u:Nat) (s:St),(sts W Z os qs r)[u]?=some s→s.rk<Ns.length∧∃ v M M' rv',stepV P cl ops (opvD W A s.an (i+u) rv' (i+u) G tv0) (opvA W ops.toList s.an G tv0) (base+(i+u)) s M=some (v,M')∧rv'.length=i+u∧(∃ q,all=q++(v::rv'))∧nth all (i+u)=some v∧nth Ns s.rk=some M∧(s.cl=2→nth Ns (s.rk+1)=some M')∧r≤s.rk) ∧
  (∀ k,r<k→k<Ns.length→∃ (u:Nat) (s:St),(sts W Z os qs r)[u]?=some s∧s.cl=2∧s.rk+1=k)
 | [],qs,r,i,rv,ns,all,Ns,h,hn,hr=>by
  simp only [sts,pass,Option.some.injEq,Prod.mk.injEq] at h;obtain ⟨rfl,rfl⟩:=h;exact ⟨⟨[],rfl,by simp [sts]⟩,⟨[],rfl⟩,by simp [sts],fun k h1 h2=>by omega⟩
 | _::_,[],r,i,rv,ns,all,Ns,h,hn,hr=>by
  simp only [sts,pass,Option.some.injEq,Prod.mk.injEq] at h;obtain ⟨rfl,rfl⟩:=h;exact ⟨⟨[],rfl,by simp [sts]⟩,⟨[],rfl⟩,by simp [sts],fun k h1 h2=>by omega⟩
 | o::os,a::qs,r,i,rv,ns,all,Ns,h,hn,hr=>by
  have e0:sts W Z (o::os) (a::qs) r=⟨o,a,clsOf W Z o,r⟩::sts W Z os qs (match Nat.beq (clsOf W Z o) 2 with
   | true=>r+1
   | false=>r):=rfl
  rw [e0] at h ⊢
  cases ns with
  | nil=>simp [pass] at h
  | cons M ns' =>
   simp only [pass] at h
   split at h
   ·cases h
   ·rename_i v M' hst
    have hnl:ns'.length=r:=by simpa using hn
    split at h
    ·rename_i hb
     try rw [hb] at h
     try rw [hb]
     try dsimp only at h
     try dsimp only
     obtain ⟨⟨p,p1,p2⟩,⟨q,q1⟩,hS,hK⟩:=pass_spec Z os qs (r+1) (i+1) (v::rv) (M'::M::ns') all Ns h (by simp [hnl]) (by simp [hr]);have hM:nth Ns r=some M:=by
      rw [q1,show q++M'::M::ns'=(q++[M'])++(M::ns') by simp,nth_app (by simp [hnl]),← hnl,nth_cons]
     have hM':nth Ns (r+1)=some M':=by
      rw [q1,nth_app (by simp [hnl]),show r+1=(M::ns').length by simp [hnl],nth_cons]
     refine ⟨⟨p++[v],by rw [p1];simp,by simp [p2]⟩,⟨q++[M'],by rw [q1];simp⟩,fun u s hu=>?_,fun k k1 k2=>?_⟩
     ·cases u with
      | zero =>
       simp only [List.getElem?_cons_zero,Option.some.injEq] at hu;subst hu;refine ⟨by rw [q1];simp;omega,v,M,M',rv,hst,by simp [hr],⟨p,p1⟩,?_,hM,fun _=>hM',Nat.le_refl _⟩;rw [p1,nth_app (by simp [hr]),Nat.add_zero,← hr,nth_cons]
      | succ u =>
       simp only [List.getElem?_cons_succ] at hu;obtain ⟨a1,v1,M1,M2,rv',a2,a3,a4,a5,a6,a7,a8⟩:=hS u s hu;rw [show i+1+u=i+(u+1) by omega] at a2 a3 a5;exact ⟨a1,v1,M1,M2,rv',a2,a3,a4,a5,a6,a7,by omega⟩
     ·by_cases hk:k=r+1
      ·exact ⟨0,_,rfl,Nat.eq_of_beq_eq_true hb,hk.symm⟩
      ·obtain ⟨u,s,b1,b2,b3⟩:=hK k (by omega) k2;exact ⟨u+1,s,by simpa using b1,b2,b3⟩
    ·rename_i hb
     try rw [hb] at h
     try rw [hb]
     try dsimp only at h
     try dsimp only
     obtain ⟨⟨p,p1,p2⟩,⟨q,q1⟩,hS,hK⟩:=pass_spec Z os qs r (i+1) (v::rv) (M::ns') all Ns h (by simp [hnl]) (by simp [hr]);have hM:nth Ns r=some M:=by
      rw [q1,nth_app (by simp [hnl]),← hnl,nth_cons]
     refine ⟨⟨p++[v],by rw [p1];simp,by simp [p2]⟩,⟨q,q1⟩,fun u s hu=>?_,fun k k1 k2=>?_⟩
     ·cases u with
      | zero =>
       simp only [List.getElem?_cons_zero,Option.some.injEq] at hu;subst hu;refine ⟨by rw [q1];simp;omega,v,M,M',rv,hst,by simp [hr],⟨p,p1⟩,?_,hM,fun e=>?_,Nat.le_refl _⟩
       ·rw [p1,nth_app (by simp [hr]),Nat.add_zero,← hr,nth_cons]
       ·dsimp only at e;rw [e] at hb;cases hb
      | succ u =>
       simp only [List.getElem?_cons_succ] at hu;obtain ⟨a1,v1,M1,M2,rv',a2,a3,a4,a5,a6,a7,a8⟩:=hS u s hu;rw [show i+1+u=i+(u+1) by omega] at a2 a3 a5;exact ⟨a1,v1,M1,M2,rv',a2,a3,a4,a5,a6,a7,a8⟩
     ·obtain ⟨u,s,b1,b2,b3⟩:=hK k k1 k2;exact ⟨u+1,s,by simpa using b1,b2,b3⟩
theorem opvD_le {an i0:Nat} {q rv:List Value} {i n:Nat} (hr:rv.length=i) (hn:(q++rv).length=n) {L:Array Bool} (hL:∀ j,an.testBit j=true→j<i) {x:Operand} {u:Value} (h:opvD W A an i0 rv i G tv0 x=some u):opvD W A an i0 (q++rv) n G tv0 x=some u:=by
 unfold opvD at h ⊢
 split at h
 ·rename_i t
  split at h
  ·rename_i j hj
   split at h
   ·rename_i hb
    rw [Bool.and_eq_true] at hb;have hlt:=blt_lt hb.2;simp only [List.length_append] at hn;rw [hb.1,show Nat.blt j n=true by simp [Nat.blt];omega];simp only [Bool.and_self];rw [List.getElem?_append_right (by omega)];rw [← h];congr 1;omega
   ·rename_i hb
    have hb2:(tb an j && Nat.blt j n)=false:=by
     cases hx:tb an j with
     | false=>rfl
     | true =>
      have:=hL j (by rw [← tb_eq];exact hx);rw [hx,show Nat.blt j i=true by simp [Nat.blt];omega] at hb
      cases hb
    rw [hb2];exact h
  ·exact h
 ·exact h
theorem hoist_spec {ev0:Nat→Operand→Option Value}:∀ (S:List St) (i:Nat) (M M':Mem),hoist P ev0 base S i M=some M'→M'.nx=M.nx ∧
  (∀ j y,M'.bs.get j=some y→(∃ (u:Nat) (s:St) (v:Value) (cs:List Value),S[u]?=some s∧s.cl=3∧j=base+(i+u)∧evA P (ev0 s.an) j s.o=some (v,cs)∧y=.cells cs.length (wr .e 0 cs))∨(M.bs.get j=some y∧∀ (u:Nat) (s:St),S[u]?=some s→s.cl=3→j≠base+(i+u)))
 | [],i,M,M',h=>by cases h;exact ⟨rfl,fun j y h=>.inr ⟨h,by simp⟩⟩
 | s::l,i,M,M',h=>by
  unfold hoist at h
  split at h
  ·rename_i hb
   split at h
   ·rename_i v cs he
    obtain ⟨a1,a2⟩:=hoist_spec l (i+1) _ M' h;refine ⟨a1,fun j y hy=>?_⟩
    rcases a2 j y hy with ⟨u,t,v',cs',b1,b2,b3,b4,b5⟩ | ⟨hy,hno⟩
    ·exact .inl ⟨u+1,t,v',cs',by simpa using b1,b2,by omega,b4,b5⟩
    ·rcases Mem.get_put hy with ⟨e1,e2⟩ | ⟨e1,e2⟩
     ·exact .inl ⟨0,s,v,cs,rfl,Nat.eq_of_beq_eq_true hb,e1,by rw [e1];exact he,e2⟩
     ·refine .inr ⟨e2,fun u t hu hc=>?_⟩
      cases u with
      | zero=>exact e1
      | succ u=>have:=hno u t (by simpa using hu) hc;omega
   ·cases h
  ·rename_i hb
   obtain ⟨a1,a2⟩:=hoist_spec l (i+1) _ M' h;refine ⟨a1,fun j y hy=>?_⟩
   rcases a2 j y hy with ⟨u,t,v',cs',b1,b2,b3,b4,b5⟩ | ⟨hy,hno⟩
   ·exact .inl ⟨u+1,t,v',cs',by simpa using b1,b2,by omega,b4,b5⟩
   ·refine .inr ⟨hy,fun u t hu hc=>?_⟩
    cases u with
    | zero=>simp only [List.getElem?_cons_zero,Option.some.injEq] at hu;subst hu;rw [hc] at hb;cases hb
    | succ u=>have:=hno u t (by simpa using hu) hc;omega
theorem hoist_MR {ev0:Nat→Operand→Option Value} {w0 w:World} {ρ:Rho}:∀ (S:List St) (i:Nat) (M M':Mem),hoist P ev0 base S i M=some M'→(∀ u,ρ (base+u)=none)→MR w0 ρ M w→MR w0 ρ M' w
 | [],i,M,M',h,_,hM=>by cases h;exact hM
 | s::l,i,M,M',h,hn,hM=>by
  unfold hoist at h
  split at h
  ·split at h
   ·exact hoist_MR l (i+1) _ M' h hn (hM.hole (hn i) _)
   ·cases h
  ·exact hoist_MR l (i+1) _ M' h hn hM
theorem winK_spec {ev:Operand→Option Value} {Q:List (Nat×St)} {s:St} {i:Nat} {v:Value}:∀ (ns:List Mem) (k:Nat),winK P ev Q s i v ns k=true→∀ (j:Nat) (M:Mem),ns[j]?=some M→k+j=s.rk∨excl i s.an (k+j) Q=true∨evR P ev M s.o=some v
 | [],_,_,_,_,h=>by simp at h
 | N::ns,k,h,j,M,hj=>by
  unfold winK at h
  split at h
  ·rename_i hx
   cases j with
   | zero =>
    rw [Bool.or_eq_true] at hx;exact hx.imp (fun e=>Nat.eq_of_beq_eq_true e) .inl
   | succ j=>have:=winK_spec ns (k+1) h j M (by simpa using hj);rwa [show k+1+j=k+(j+1) by omega] at this
  ·split at h
   ·rename_i u hu
    split at h
    ·rename_i hv
     cases j with
     | zero=>simp only [List.getElem?_cons_zero,Option.some.injEq] at hj;subst hj;exact .inr (.inr (by rw [hu,veq_eq hv]))
     | succ j=>have:=winK_spec ns (k+1) h j M (by simpa using hj);rwa [show k+1+j=k+(j+1) by omega] at this
    ·cases h
   ·cases h
theorem win_spec {Q:List (Nat×St)} {all:List Value} {n:Nat} {Ns:List Mem}:∀ (l:List St) (i:Nat),win P ops W A G tv0 Q all n Ns l i=true→∀ (u:Nat) (s:St),l[u]?=some s→s.cl=1→gd ops (opvD W A s.an (i+u) all n G tv0) s.o=some false∨∃ v,all[n-1-(i+u)]?=some v∧∀ (k:Nat) (M:Mem),Ns[k]?=some M→k=s.rk∨excl (i+u) s.an k Q=true∨evR P (opvD W A s.an (i+u) all n G tv0) M s.o=some v
 | [],_,_,_,_,h,_=>by simp at h
 | s::l,i,h,u,t,hu,ht=>by
  unfold win at h
  split at h
  ·rename_i hb
   cases u with
   | zero=>simp only [List.getElem?_cons_zero,Option.some.injEq] at hu;subst hu;rw [ht] at hb;cases hb
   | succ u=>have:=win_spec l (i+1) h u t (by simpa using hu) ht;rwa [show i+1+u=i+(u+1) by omega] at this
  ·split at h
   ·rename_i hg
    cases u with
    | zero=>simp only [List.getElem?_cons_zero,Option.some.injEq] at hu;subst hu;exact .inl hg
    | succ u=>have:=win_spec l (i+1) h u t (by simpa using hu) ht;rwa [show i+1+u=i+(u+1) by omega] at this
   ·rename_i v hg hv
    split at h
    ·rename_i hw
     cases u with
     | zero =>
      simp only [List.getElem?_cons_zero,Option.some.injEq] at hu;subst hu;exact .inr ⟨v,hv,fun k M hk=>by have:=winK_spec _ _ hw k M hk;rwa [Nat.zero_add] at this⟩
     | succ u=>have:=win_spec l (i+1) h u t (by simpa using hu) ht;rwa [show i+1+u=i+(u+1) by omega] at this
    ·cases h
   ·cases h
theorem wl_nil:∀ (l:List St) (n:Nat),wl l n=[]→∀ (i:Nat) (s:St),l[i]?=some s→s.cl≠2
 | [],_,_,_,_,h=>by simp at h
 | t::l,n,h,i,s,hi=>by
  unfold wl at h
  split at h
  ·cases h
  ·rename_i hb
   cases i with
   | zero=>simp only [List.getElem?_cons_zero,Option.some.injEq] at hi;subst hi;intro e;rw [e] at hb;cases hb
   | succ i=>exact wl_nil l (n+1) h i s (by simpa using hi)
theorem putAll_spec {sz:Nat} {all:List Value} {n:Nat}:∀ (l:List St) (i:Nat) (tv tv':T Value),putAll sz all n l i tv=some tv' →
  (∀ (u:Nat) (s:St) (d:Nat),l[u]?=some s→s.o.dst=some d→d<sz) ∧
  ∀ t v,tv'.get t=some v→(∃ (u:Nat) (s:St),l[u]?=some s∧s.o.dst=some t∧all[n-1-(i+u)]?=some v)∨(tv.get t=some v∧∀ (u:Nat) (s:St),l[u]?=some s→s.o.dst≠some t)
 | [],i,tv,tv',h=>by cases h;exact ⟨by simp,fun t v e=>.inr ⟨e,by simp⟩⟩
 | s::l,i,tv,tv',h=>by
  unfold putAll at h
  split at h
  ·rename_i x hx
   split at h
   ·rename_i tv1 hp
    obtain ⟨a1,a2⟩:=putAll_spec l (i+1) tv1 tv' h;refine ⟨fun u t d hu hd=>?_,fun t v e=>?_⟩
    ·cases u with
     | zero =>
      simp only [List.getElem?_cons_zero,Option.some.injEq] at hu;subst hu;unfold putT at hp;rw [hd] at hp;dsimp only at hp
      split at hp
      ·rename_i hb;exact blt_lt hb
      ·cases hp
     | succ u=>exact a1 u t d (by simpa using hu) hd
    ·rcases a2 t v e with ⟨u,s',b1,b2,b3⟩ | ⟨b1,b2⟩
     ·exact .inl ⟨u+1,s',by simpa using b1,b2,by rw [show i+(u+1)=i+1+u by omega];exact b3⟩
     ·unfold putT at hp
      split at hp
      ·rename_i hd
       cases hp
       refine .inr ⟨b1,fun u s' hu=>?_⟩
       cases u with
       | zero=>simp only [List.getElem?_cons_zero,Option.some.injEq] at hu;subst hu;rw [hd];simp
       | succ u=>exact b2 u s' (by simpa using hu)
      ·rename_i d hd
       split at hp
       ·cases hp
        rcases T.get_set _ _ _ _ _ _ b1 with ⟨rfl,rfl⟩ | ⟨hne,b1⟩
        ·exact .inl ⟨0,s,rfl,hd,hx⟩
        ·refine .inr ⟨b1,fun u s' hu=>?_⟩
         cases u with
         | zero=>simp only [List.getElem?_cons_zero,Option.some.injEq] at hu;subst hu;rw [hd];simpa using Ne.symm hne
         | succ u=>exact b2 u s' (by simpa using hu)
       ·cases hp
   ·cases h
  ·cases h
end
end
noncomputable section
structure Inv (w0:World) (ρ0:Rho) (M00:Mem) (W:List (Nat×Nat)) (S:List St) (G sz base:Nat) (tv0:T Value) (all:List Value) (Ns:List Mem) (N0:Mem) (ρ:Rho) (k:Nat) (N:Mem) (L:Array Bool) (a:Act) (w:World):Prop where
 size:L.size=S.length
 C:∀ (i:Nat) (s:St),L[i]?=some true→S[i]?=some s→∀ j,s.an.testBit j=true→L[j]?=some true
 at_:nth Ns k=some N
 mr:MR w0 ρ N w
 gr:Grow ρ0 M00 ρ N
 nx:base+S.length≤N.nx
 K:∀ (i:Nat) (s:St),S[i]?=some s→s.cl=2→(L[i]?=some true↔s.rk<k)
 ho:∀ (i:Nat) (s:St),S[i]?=some s→s.cl=3→L[i]?≠some true→ρ (base+i)=none∧∀ y,N.bs.get (base+i)=some y→N0.bs.get (base+i)=some y
 defers:a.defers=[]
 tsz:a.tmps.size=sz
 glob:∃ Ng,ρ G=some (G,0,Ng)
 t1:∀ (i:Nat) (s:St) (d:Nat),S[i]?=some s→L[i]?=some true→s.o.dst=some d→∃ v v',nth all i=some v∧a.tmps[d]?=some v'∧VR ρ v v'
 t2:∀ (t:Nat) (v:Value),tv0.get t=some v→(∀ j,lk t W=some j→L[j]?≠some true)→∃ v',a.tmps[t]?=some v'∧VR ρ v v'
section
variable {w0 w w':World} {ρ0 ρ ρ':Rho} {M00:Mem} {W:List (Nat×Nat)} {S:List St} {G sz base:Nat} {tv0:T Value} {all:List Value} {Ns:List Mem} {N0 N N':Mem} {k k':Nat} {L:Array Bool} {a:Act} {ops:Array Oper}
theorem L_set {L:Array Bool} {i j:Nat} (hi:i<L.size):((L.setIfInBounds i true)[j]?=some true)↔(j=i∨L[j]?=some true):=by
 by_cases h:j=i
 ·subst h;simp [Array.getElem?_setIfInBounds_self_of_lt hi]
 ·rw [Array.getElem?_setIfInBounds_ne (Ne.symm h)];simp [h]
theorem Inv.next (h:Inv w0 ρ0 M00 W S G sz base tv0 all Ns N0 ρ k N L a w) (hW:W=wrs ops.toList 0) (hu:uniq W=true) (hops:∀ (i:Nat) (s:St),S[i]?=some s→ops[i]?=some s.o) {i:Nat} {s:St} (hs:S[i]?=some s) (hb:∀ j,s.an.testBit j=true→L[j]?=some true)
  (hnl:L[i]?≠some true) (hd:∀ d,s.o.dst=some d→d<sz) {v v':Value} (hv:nth all i=some v) (h1:nth Ns k'=some N') (h2:MR w0 ρ' N' w') (h3:Grow ρ0 M00 ρ' N') (h4:base+S.length≤N'.nx) (hsub:Sub ρ ρ') (h5:VR ρ' v v')
  (h6:∀ (j:Nat) (t:St),S[j]?=some t→t.cl=2→((j=i∨L[j]?=some true)↔t.rk<k'))
  (h7:∀ (j:Nat) (t:St),S[j]?=some t→t.cl=3→j≠i→L[j]?≠some true→ρ' (base+j)=none∧∀ y,N'.bs.get (base+j)=some y→N.bs.get (base+j)=some y) :
  Inv w0 ρ0 M00 W S G sz base tv0 all Ns N0 ρ' k' N' (L.setIfInBounds i true) (a.put s.o.dst v') w':=by
 have hi:i<L.size:=by rw [h.size];exact (List.getElem?_eq_some_iff.1 hs).1
 refine ⟨by simp [h.size],fun j t hj ht b hbit=>?_,h1,h2,h3,h4,fun j t ht hc=>?_,fun j t ht hc hj=>?_,?_,?_,?_,fun j t d ht hj hdt=>?_,fun t u hu' hl=>?_⟩
 ·rw [L_set hi] at hj ⊢
  rcases hj with rfl | hj
  ·rw [hs] at ht;cases ht;exact .inr (hb b hbit)
  ·exact .inr (h.C j t hj ht b hbit)
 ·rw [L_set hi];exact h6 j t ht hc
 ·have hj1:j≠i:=fun e=>hj ((L_set hi).2 (.inl e));have hj2:L[j]?≠some true:=fun e=>hj ((L_set hi).2 (.inr e));obtain ⟨a1,a2⟩:=h7 j t ht hc hj1 hj2;exact ⟨a1,fun y hy=>(h.ho j t ht hc hj2).2 y (a2 y hy)⟩
 ·unfold Act.put;split<;>exact h.defers
 ·unfold Act.put;split<;>simp [h.tsz]
 ·obtain ⟨Ng,e⟩:=h.glob;exact ⟨Ng,hsub _ _ e⟩
 ·rw [L_set hi] at hj
  rcases hj with rfl | hj
  ·rw [hs] at ht;cases ht;refine ⟨v,v',hv,?_,h5⟩;rw [hdt];simp only [Act.put];rw [Array.getElem?_setIfInBounds_self_of_lt (by rw [h.tsz];exact hd d hdt)]
  ·obtain ⟨u,u',a1,a2,a3⟩:=h.t1 j t d ht hj hdt;refine ⟨u,u',a1,?_,a3.mono hsub⟩
   cases hdi:s.o.dst with
   | none=>exact a2
   | some d' =>
    simp only [Act.put];rw [Array.getElem?_setIfInBounds_ne ?_]; · exact a2
    rintro rfl;have e1:=wrs_lk ops.toList 0 i s.o d' (by rw [← hW];exact hu) (by simpa using hops i s hs) hdi;have e2:=wrs_lk ops.toList 0 j t.o d' (by rw [← hW];exact hu) (by simpa using hops j t ht) hdt;rw [e1] at e2;have:i=j:=by simpa using e2
    subst this;exact hnl hj
 ·obtain ⟨u',a1,a2⟩:=h.t2 t u hu' fun j hj e=>hl j hj ((L_set hi).2 (.inr e));refine ⟨u',?_,a2.mono hsub⟩
  cases hdi:s.o.dst with
  | none=>exact a1
  | some d' =>
   simp only [Act.put];rw [Array.getElem?_setIfInBounds_ne ?_]; · exact a1
   rintro rfl;have e1:=wrs_lk ops.toList 0 i s.o d' (by rw [← hW];exact hu) (by simpa using hops i s hs) hdi;rw [← hW,Nat.zero_add] at e1;exact hl i e1 ((L_set hi).2 (.inl rfl))
theorem Inv.ev (h:Inv w0 ρ0 M00 W S G sz base tv0 all Ns N0 ρ k N L a w) (hW:W=wrs ops.toList 0) (hops:∀ (i:Nat) (o:Oper),ops[i]?=some o→∃ s,S[i]?=some s∧s.o=o) (hal:all.length=S.length) {A:List Nat} (hA:∀ (i:Nat) (s:St),S[i]?=some s→A[i]?=some s.an) (hAl:A.length=S.length) {an i0:Nat} (hi0:L[i0]?≠some true) (hb:∀ j,an.testBit j=true→L[j]?=some true) :
  (∀ d u,opvD W A an i0 all S.length G tv0 (.tmp d)=some u→∃ v',a.tmps[d]?=some v'∧VR ρ u v')∧∀ x u,opvD W A an i0 all S.length G tv0 x=some u→VR ρ u (a.eval x):=by
 have key:∀ d u,opvD W A an i0 all S.length G tv0 (.tmp d)=some u→∃ v',a.tmps[d]?=some v'∧VR ρ u v':=fun d u e=>by
  unfold opvD at e;dsimp only at e
  split at e
  ·rename_i j hj
   split at e
   ·rename_i hbit
    rw [Bool.and_eq_true,tb_eq] at hbit;have hlt:=blt_lt hbit.2;rw [hW] at hj;obtain ⟨i,o,e1,e2,e3⟩:=lk_wrs _ _ _ _ hj;rw [Nat.zero_add] at e1;subst e1;obtain ⟨s,e4,e5⟩:=hops j o (by simpa using e2);obtain ⟨v,v',a1,a2,a3⟩:=h.t1 j s d e4 (hb j hbit.1) (by rw [e5];exact e3);rw [nth_lt (by omega),hal,e] at a1
    cases a1
    exact ⟨v',a2,a3⟩
   ·split at e
    ·rename_i hbo
     refine h.t2 d u e fun j' hj' hL'=>?_;rw [hj] at hj'
     cases hj'
     unfold bitOf at hbo
     split at hbo
     ·rename_i x hx
      rw [tb_eq] at hbo;have hlt:j<S.length:=by rw [← hAl];exact (List.getElem?_eq_some_iff.1 hx).1
      have hx2:=hA j _ (List.getElem?_eq_getElem hlt);rw [hx] at hx2
      cases hx2
      exact hi0 (h.C j _ hL' (List.getElem?_eq_getElem hlt) i0 hbo)
     ·cases hbo
    ·cases e
  ·rename_i hl
   exact h.t2 d u e fun j hj=>by rw [hl] at hj;cases hj
 refine ⟨key,fun x u e=>?_⟩
 cases x with
 | tmp t =>
  obtain ⟨v',e1,e2⟩:=key t u e;show VR ρ u (a.tmps.getD t undef);rw [show a.tmps.getD t undef=v' by rw [Array.getD_eq_getD_getElem?,e1];rfl];exact e2
 | const v =>
  unfold opvD opv at e;dsimp only at e
  split at e
  ·rename_i hp;cases e;exact .one (V1.refl1 hp)
  ·cases e
 | global g =>
  unfold opvD opv at e;dsimp only at e
  split at e
  ·rename_i hg
   cases e
   have hg:=Nat.eq_of_beq_eq_true hg;subst hg;obtain ⟨Ng,e1⟩:=h.glob;exact .one (.sc (SR.ptr (O:=0) (o:=0) e1))
  ·cases e
 | func f=>cases e;exact .one (.fn .nil)
end
end
noncomputable section
theorem ready_spec {ops:Array Oper} {L:Array Bool} {i:Nat} (hn:L.size=ops.size) (h:i∈Region.ready .any ops L):i<ops.size∧L[i]?=some false∧∃ o,ops[i]?=some o∧∀ e∈o.after.toList,Region.binds .any e=true→L[e.on]?=some true:=by
 unfold Region.ready at h;rw [List.mem_filter] at h;obtain ⟨h1,h2⟩:=h;have hi:i<ops.size:=by simpa using h1
 rw [Bool.and_eq_true] at h2;obtain ⟨h2,h3⟩:=h2;have hL:L[i]?=some false:=by
  rw [Array.getD_eq_getD_getElem?,Array.getElem?_eq_getElem (by omega)] at h2;rw [Array.getElem?_eq_getElem (by omega)]
  simpa using h2
 refine ⟨hi,hL,ops[i],Array.getElem?_eq_getElem hi,fun e he hb=>?_⟩;rw [Array.getElem?_eq_getElem hi] at h3;simp only [Option.map_some,Option.getD_some] at h3;rw [← Array.all_toList] at h3;have h4:=List.all_eq_true.1 h3 e he;rw [hb] at h4;have h5:L.getD e.on false=true:=by simpa using h4
 rw [Array.getD_eq_getD_getElem?] at h5
 cases hx:L[e.on]? with
 | none=>rw [hx] at h5;cases h5
 | some x=>rw [hx] at h5;simp only [Option.getD_some] at h5;rw [h5]
theorem ready_ne {ops:Array Oper} {L:Array Bool} (hn:L.size=ops.size) (hE:okE ops.toList 0=true) (hr:Region.ready .any ops L=[]):∀ i,i<ops.size→L[i]?=some true:=by
 intro i
 induction i using Nat.strongRecOn with
 | _ i ih =>
  intro hi
  cases hx:L[i]? with
  | none=>rw [Array.getElem?_eq_none_iff] at hx;omega
  | some x =>
   cases x with
   | true=>rfl
   | false =>
    have:i∈Region.ready .any ops L:=by
     unfold Region.ready;rw [List.mem_filter];refine ⟨by simpa using hi,?_⟩;rw [Bool.and_eq_true];refine ⟨by rw [Array.getD_eq_getD_getElem?,hx];rfl,?_⟩;rw [Array.getElem?_eq_getElem hi];simp only [Option.map_some,Option.getD_some];rw [← Array.all_toList];refine List.all_eq_true.2 fun e he=>?_
     cases hb:Region.binds .any e with
     | false=>rfl
     | true =>
      have hlt:=okE_spec _ 0 hE i ops[i] (by simp) e he hb;have:=ih e.on (by omega) (by omega);rw [Array.getD_eq_getD_getElem?,this];rfl
    rw [hr] at this;cases this
section
variable {P:Program} {cl:Cl} {w0:World} {ρ0:Rho} {M00:Mem} {W:List (Nat×Nat)} {A:List Nat} {S:List St} {G sz base:Nat} {tv0 tv':T Value} {all:List Value} {Ns:List Mem} {N0:Mem} {ops:Array Oper} {Q:Exit→Act→World→Prop}
structure Data (P:Program) (cl:Cl) (w0:World) (W:List (Nat×Nat)) (A:List Nat) (S:List St) (G sz base:Nat) (tv0:T Value) (all:List Value) (Ns:List Mem) (N0:Mem) (ops:Array Oper):Prop where
 hW:W=wrs ops.toList 0
 uq:uniq W=true
 len:S.length=ops.size
 oE:okE ops.toList 0=true
 o1:∀ (i:Nat) (s:St),S[i]?=some s→ops[i]?=some s.o
 o2:∀ (i:Nat) (s:St),S[i]?=some s→s.cl=clsOf W ops.toList s.o
 oA:∀ (i:Nat) (s:St),S[i]?=some s→A[i]?=some s.an
 lA:A.length=S.length
 lt:∀ (i:Nat) (s:St),S[i]?=some s→∀ j,s.an.testBit j=true→j<i
 an:∀ (i:Nat) (s:St),S[i]?=some s→∀ j,s.an.testBit j=true→∃ e∈s.o.after.toList,Region.binds .any e=true∧(j=e.on∨∃ t,S[e.on]?=some t∧t.an.testBit j=true)
 ch:∀ (i:Nat) (s:St),S[i]?=some s→s.cl=2→s.rk=0∨∃ (u:Nat) (t:St),S[u]?=some t∧t.cl=2∧t.rk+1=s.rk∧s.an.testBit u=true
 rk:∀ (i j:Nat) (s t:St),S[i]?=some s→S[j]?=some t→s.cl=2→t.cl=2→s.rk=t.rk→i=j
 al:all.length=S.length
 st:∀ (i:Nat) (s:St),S[i]?=some s→∃ v M M' rv,stepV P cl ops (opvD W A s.an i rv i G tv0) (opvA W ops.toList s.an G tv0) (base+i) s M=some (v,M')∧rv.length=i∧(∃ q,all=q++rv)∧nth all i=some v∧nth Ns s.rk=some M∧(s.cl=2→nth Ns (s.rk+1)=some M')
 wn:∀ (i:Nat) (s:St),S[i]?=some s→s.cl=1→gd ops (opvD W A s.an i all S.length G tv0) s.o=some false∨∃ v,nth all i=some v∧∀ (k:Nat) (M:Mem),nth Ns k=some M→k=s.rk∨excl i s.an k (wl S 0)=true∨evR P (opvD W A s.an i all S.length G tv0) M s.o=some v
 ds:∀ (i:Nat) (s:St) (d:Nat),S[i]?=some s→s.o.dst=some d→d<sz
 h0:∀ (i:Nat) (s:St),S[i]?=some s→s.cl=3→∀ v cs,evA P (opvA W ops.toList s.an G tv0) (base+i) s.o=some (v,cs)→∀ y,N0.bs.get (base+i)=some y→y=.cells cs.length (wr .e 0 cs)
theorem Grow.fill {ρ ρ1:Rho} {M0 M:Mem} {b:Nat} {x:Nat×Nat×Nat} (g:Grow ρ M0 ρ1 M) (hb:M0.nx≤b):Grow ρ M0 (upd ρ1 b x) M :=
 ⟨fun j hj=>by unfold upd;rw [if_neg (by omega)];exact g.ext j hj,g.nx,g.keep⟩
theorem step_wp (D:Data P cl w0 W A S G sz base tv0 all Ns N0 ops) (hcl:Fits P w0 G cl) (hbase:M00.nx≤base) {ρ:Rho} {k:Nat} {N:Mem} {L:Array Bool} {a:Act} {w:World}
  (h:Inv w0 ρ0 M00 W S G sz base tv0 all Ns N0 ρ k N L a w) {i:Nat} (hi:i∈Region.ready .any ops L) :
  wpOp P ops Q i (fun a' w'=>∃ ρ' k' N',Inv w0 ρ0 M00 W S G sz base tv0 all Ns N0 ρ' k' N' (L.setIfInBounds i true) a' w') a w:=by
 obtain ⟨hi1,hi2,o,ho,hdep⟩:=ready_spec (by rw [h.size,D.len]) hi;obtain ⟨s,hs⟩:∃ s,S[i]?=some s:=⟨S[i]'(by rw [D.len];exact hi1),List.getElem?_eq_getElem _⟩;have hos:=D.o1 i s hs;rw [ho] at hos
 cases hos
 have hnl:L[i]?≠some true:=by rw [hi2];simp
 have hb:∀ j,s.an.testBit j=true→L[j]?=some true:=fun j hj=>by
  obtain ⟨e,e1,e2,e3⟩:=D.an i s hs j hj;have e4:=hdep e e1 e2
  rcases e3 with rfl | ⟨t,e5,e6⟩
  ·exact e4
  ·exact h.C e.on t e4 e5 j e6
 have hopsS:∀ (i:Nat) (o:Oper),ops[i]?=some o→∃ s,S[i]?=some s∧s.o=o:=fun j o hj=>by
  have hlt:=(Array.getElem?_eq_some_iff.1 hj).1;refine ⟨S[j]'(by rw [D.len];exact hlt),List.getElem?_eq_getElem _,?_⟩;have:=D.o1 j _ (List.getElem?_eq_getElem (show j<S.length by rw [D.len];exact hlt));rw [hj] at this;cases this;rfl
 obtain ⟨het,he⟩:=h.ev D.hW hopsS D.al D.oA D.lA hnl hb;obtain ⟨v,M,M',rv,st1,st2,⟨q,st3⟩,st4,st5,st6⟩:=D.st i s hs;have hle:∀ x u,opvD W A s.an i rv i G tv0 x=some u→opvD W A s.an i all S.length G tv0 x=some u:=fun x u e=>by
  have:=opvD_le (q:=q) (n:=S.length) (L:=L) st2 (by rw [← st3];exact D.al) (D.lt i s hs) e;rw [← st3] at this;exact this
 have he1:∀ x u,opvD W A s.an i rv i G tv0 x=some u→VR ρ u (a.eval x):=fun x u e=>he x u (hle x u e);have hsame:∀ (hc:s.cl≠2) {v':Value},VR ρ v v'→Inv w0 ρ0 M00 W S G sz base tv0 all Ns N0 ρ k N (L.setIfInBounds i true) (a.put s.o.dst v') w:=fun hc v' hv' =>
  h.next D.hW D.uq D.o1 hs hb hnl (fun d hd=>D.ds i s d hs hd) st4 h.at_ h.mr h.gr h.nx (Sub.refl ρ) hv' (fun j t ht hct=>by
   rw [← h.K j t ht hct];refine ⟨fun e=>e.resolve_left ?_,.inr⟩;rintro rfl;rw [hs] at ht;cases ht;exact hc hct) (fun j t ht hct _ hj=>⟨(h.ho j t ht hct hj).1,fun y hy=>hy⟩)
 have hturn:s.cl=2→s.rk=k:=fun hc=>by
  have h1:¬ s.rk<k:=fun e=>hnl ((h.K i s hs hc).2 e)
  rcases D.ch i s hs hc with e | ⟨u,t,e1,e2,e3,e4⟩
  ·omega
  ·have:=(h.K u t e1 e2).1 (hb u e4);omega
 have hKn:∀ (hc:s.cl=2) (j:Nat) (t:St),S[j]?=some t→t.cl=2→((j=i∨L[j]?=some true)↔t.rk<k+1):=fun hc j t ht hct=>by
  have hk:=hturn hc
  constructor
  ·rintro (rfl | e)
   ·rw [hs] at ht;cases ht;omega
   ·have:=(h.K j t ht hct).1 e;omega
  ·intro e
   by_cases e2:t.rk=k
   ·exact .inl (D.rk j i t s ht hs hct hc (by omega))
   ·exact .inr ((h.K j t ht hct).2 (by omega))
 unfold wpOp;rw [ho];dsimp only;unfold stepV at st1
 split at st1
 ·cases st1
 ·rename_i hg
  have hw:Region.wanted s.o (yielded ops a.tmps)=false:=gd_wanted (fun d u e=>het d u (hle _ _ e)) hg;rw [hw];simp only [Bool.false_eq_true,if_false]
  split at st1
  ·cases st1
  ·cases st1
   by_cases hc:s.cl=2
   ·have hk:=hturn hc;rw [hk] at st6;have e1:=st6 hc;rw [hk,h.at_] at st5
    cases st5
    exact ⟨ρ,k+1,N,h.next D.hW D.uq D.o1 hs hb hnl (fun d hd=>D.ds i s d hs hd) st4 e1 h.mr h.gr h.nx (Sub.refl ρ) .undef (hKn hc) (fun j t ht hct _ hj=>⟨(h.ho j t ht hct hj).1,fun y hy=>hy⟩)⟩
   ·exact ⟨ρ,k,N,hsame hc .undef⟩
 ·rename_i hg
  have hw:Region.wanted s.o (yielded ops a.tmps)=true:=gd_wanted (fun d u e=>het d u (hle _ _ e)) hg;rw [hw];simp only [if_true];refine .inl ?_
  split at st1
  ·rename_i hc
   split at st1
   ·rename_i u hu
    cases st1
    obtain ⟨v',r1,r2⟩:=evP_run he1 hu;exact upon_gives (.inl (r2 w)) ⟨ρ,k,N,hsame (by omega) r1⟩
   ·cases st1
  ·rename_i hc
   split at st1
   ·rename_i u hu
    cases st1
    by_cases hkr:k=s.rk
    ·rw [← hkr,h.at_] at st5
     cases st5
     obtain ⟨v',r1,r2⟩:=evR_run h.mr he1 hu;exact upon_gives (.inl r2) ⟨ρ,k,_,hsame (by omega) r1⟩
    rcases D.wn i s hs hc with hg2 | ⟨v2,g1,g2⟩
    ·have:=gd_wanted (b:=false) (a:=a) (fun d u e=>het d u e) hg2;rw [hw] at this;cases this
    ·rw [g1] at st4
     cases st4
     rcases g2 k N h.at_ with hx | hx | hx
     ·exact absurd hx hkr
     ·exfalso
      obtain ⟨u,t,x1,x2,x3⟩:=excl_spec _ _ _ _ hx
      rcases x3 with ⟨x3,x4⟩ | ⟨x3,x4⟩
      ·have:=(h.K u t x1 x2).1 (hb u x3);omega
      ·exact hnl (h.C u t ((h.K u t x1 x2).2 x4) x1 i x3)
     ·obtain ⟨v',r1,r2⟩:=evR_run h.mr he hx;exact upon_gives (.inl r2) ⟨ρ,k,N,hsame (by omega) r1⟩
   ·cases st1
  ·rename_i hc
   have hk:=hturn hc;have e1:=st6 hc;rw [hk] at e1;rw [hk,h.at_] at st5
   cases st5
   refine evOW_wp h.mr hcl h.glob he1 st1 fun ρ' v' w' g1 g2 g3=>?_;refine ⟨ρ',k+1,M',h.next D.hW D.uq D.o1 hs hb hnl (fun d hd=>D.ds i s d hs hd) st4 e1 g2 (h.gr.trans g1) (Nat.le_trans h.nx g1.nx) (h.mr.sub g1) g3 (hKn hc) fun j t ht hct _ hj=>?_⟩;obtain ⟨b1,b2⟩:=h.ho j t ht hct hj;have hlt:base+j<N.nx:=by have:=h.nx;have:=(List.getElem?_eq_some_iff.1 ht).1;omega
   exact ⟨by rw [g1.ext _ hlt];exact b1,fun y hy=>g1.keep _ y hlt b1 hy⟩
  ·rename_i hc
   split at st1
   ·rename_i u cs hu
    cases st1
    obtain ⟨b1,b2⟩:=h.ho i s hs hc hnl;have hlt:base+i<N.nx:=by have:=h.nx;have:=(List.getElem?_eq_some_iff.1 hs).1;omega
    have f2:∀ x u,opvA W ops.toList s.an G tv0 x=some u→VR ρ u (a.eval x):=fun x u e=>by
     cases x with
     | tmp t =>
      unfold opvA at e;dsimp only at e
      split at e
      ·rename_i hl
       refine he (.tmp t) u ?_;unfold opvD;dsimp only;rw [hl];exact e
      ·rename_i j hl
       split at e
       ·rename_i hbit
        split at e
        ·rename_i y hmv
         split at e
         ·rename_i hfy
          have hLj:=hb j (by rw [← tb_eq];exact hbit);have hl2:=hl;rw [D.hW] at hl2;obtain ⟨j',oj,c1,c2,c3⟩:=lk_wrs _ _ _ _ hl2;rw [Nat.zero_add] at c1;subst c1;obtain ⟨sj,d1,d2⟩:=hopsS j oj (by simpa using c2);obtain ⟨x1,x1',y1,y2,y3⟩:=h.t1 j sj t d1 hLj (by rw [d2];exact c3);obtain ⟨vj,Mj,Mj',rvj,z1,_,_,yz4,_,_⟩:=D.st j sj d1;rw [yz4] at y1
          cases y1
          have hu2:u=x1:=by
           unfold mv at hmv;rw [c2] at hmv;dsimp only at hmv
           split at hmv
           ·rename_i y' ho1 ho2
            cases hmv
            have hclj:=D.o2 j sj d1;rw [d2] at hclj;unfold clsOf at hclj;rw [ho1,ho2] at hclj;have hclj:sj.cl=0:=hclj;unfold stepV gd at z1;rw [d2,ho2,hclj] at z1;dsimp only at z1;unfold evP at z1;rw [ho1] at z1;dsimp only at z1;have hyy:opvD W A sj.an j rvj j G tv0 y=opv G tv0 y:=by
             cases y with
             | tmp t' =>
              unfold free at hfy;unfold opvD;dsimp only at hfy ⊢
              cases hq:lk t' W with
              | none=>rfl
              | some _=>rw [hq] at hfy;cases hfy
             | _=>rfl
            rw [hyy,e] at z1
            cases z1;rfl
           ·cases hmv
          subst hu2;show VR ρ u (a.tmps.getD t undef);rw [show a.tmps.getD t undef=x1' by rw [Array.getD_eq_getD_getElem?,y2];rfl];exact y3
         ·cases e
        ·cases e
       ·cases e
     | const v=>exact he (.const v) u e
     | global g=>exact he (.global g) u e
     | func f=>exact he (.func f) u e
    have f1:=hu;obtain ⟨v',w',x,r1,r2,r3⟩:=evA_run h.mr f2 f1 b1 hlt (fun y hy=>D.h0 i s hs hc v cs hu y (b2 y hy));refine upon_gives r1 ⟨_,k,N,h.next D.hW D.uq D.o1 hs hb hnl (fun d hd=>D.ds i s d hs hd) st4 h.at_ r2 (h.gr.fill (by omega)) h.nx (upd_sub b1) r3 (fun j t ht hct=>?_) fun j t ht hct hji hj=>?_⟩
    ·rw [← h.K j t ht hct];refine ⟨fun e=>e.resolve_left ?_,.inr⟩;rintro rfl;rw [hs] at ht;cases ht;omega
    ·refine ⟨?_,fun y hy=>hy⟩;unfold upd;rw [if_neg (by omega)];exact (h.ho j t ht hct hj).1
   ·cases st1
  ·cases st1
theorem sts_rk (W:List (Nat×Nat)) (Z:List Oper):∀ (os:List Oper) (qs:List Nat) (r:Nat),(∀ (i:Nat) (s:St),(sts W Z os qs r)[i]?=some s→r≤s.rk)∧∀ (i j:Nat) (s t:St),i<j→(sts W Z os qs r)[i]?=some s→(sts W Z os qs r)[j]?=some t→s.cl=2→s.rk<t.rk
 | [],_,_=>by simp [sts]
 | _::_,[],_=>by simp [sts]
 | o::os,a::qs,r=>by
  have e0:sts W Z (o::os) (a::qs) r=⟨o,a,clsOf W Z o,r⟩::sts W Z os qs (match Nat.beq (clsOf W Z o) 2 with
   | true=>r+1
   | false=>r):=rfl
  rw [e0];obtain ⟨h1,h2⟩:=sts_rk W Z os qs (match Nat.beq (clsOf W Z o) 2 with
   | true=>r+1
   | false=>r)
  have hr:r≤(match Nat.beq (clsOf W Z o) 2 with
   | true=>r+1
   | false=>r):=by
   cases Nat.beq (clsOf W Z o) 2
   ·exact Nat.le_refl r
   ·exact Nat.le_succ r
  refine ⟨fun i s h=>?_,fun i j s t hij hs ht hc=>?_⟩
  ·cases i with
   | zero=>simp only [List.getElem?_cons_zero,Option.some.injEq] at h;subst h;exact Nat.le_refl _
   | succ i=>exact Nat.le_trans hr (h1 i s (by simpa using h))
  ·cases j with
   | zero=>omega
   | succ j =>
    cases i with
    | zero =>
     simp only [List.getElem?_cons_zero,Option.some.injEq] at hs;subst hs;have:=h1 j t (by simpa using ht);dsimp only at hc ⊢;rw [hc] at this;exact this
    | succ i=>exact h2 i j s t (by omega) (by simpa using hs) (by simpa using ht) hc
theorem nth_some {α:Type} {l:List α} {k:Nat} {x:α} (h:nth l k=some x):k<l.length∧l[l.length-1-k]?=some x:=by
 unfold nth at h
 split at h
 ·rename_i hb;exact ⟨blt_lt hb,h⟩
 ·cases h
theorem any_wp (D:Data P cl w0 W A S G sz base tv0 all Ns N0 ops) (hcl:Fits P w0 G cl) (hbase:M00.nx≤base)
  (hend:∀ (ρ:Rho) k N L a w,Inv w0 ρ0 M00 W S G sz base tv0 all Ns N0 ρ k N L a w→(∀ i,i<ops.size→L[i]?=some true)→Q .normal a w) :
  ∀ (fuel:Nat) (L:Array Bool) (a:Act) (w:World),((List.range ops.size).filter fun i=>L[i]? != some true).length≤fuel→(∃ (ρ:Rho) (k:Nat) (N:Mem),Inv w0 ρ0 M00 W S G sz base tv0 all Ns N0 ρ k N L a w)→wpAny P .any ops Q fuel L a w
 | 0,L,a,w,hf,⟨ρ,k,N,h⟩=>by
  have hall:∀ i,i<ops.size→L[i]?=some true:=fun i hi=>by
   have hnil:=List.eq_nil_of_length_eq_zero (Nat.le_zero.1 hf);have:=List.filter_eq_nil_iff.1 hnil i (by simpa using hi)
   simpa using this
  refine ⟨?_,hend ρ k N L a w h hall⟩;refine List.eq_nil_iff_forall_not_mem.2 fun i hi=>?_;obtain ⟨h1,h2,_⟩:=ready_spec (by rw [h.size,D.len]) hi;rw [hall i h1] at h2;cases h2
 | fuel+1,L,a,w,hf,⟨ρ,k,N,h⟩=>by
  refine ⟨fun hr=>hend ρ k N L a w h (ready_ne (by rw [h.size,D.len]) D.oE hr),fun i hi=>?_⟩;obtain ⟨h1,h2,_⟩:=ready_spec (by rw [h.size,D.len]) hi;refine wpOp_mono (fun a' w' h'=>any_wp D hcl hbase hend fuel _ a' w' ?_ h') (step_wp D hcl hbase h hi);have hlt:i<L.size:=by rw [h.size,D.len];exact h1
  have e:((List.range ops.size).filter fun j=>(L.setIfInBounds i true)[j]? != some true)=((List.range ops.size).filter fun j=>L[j]? != some true).filter fun j=>j != i:=by
   rw [List.filter_filter];refine List.filter_congr fun j _=>?_;have:=L_set (j:=j) hlt
   by_cases hji:j=i
   ·subst hji;simp [hlt]
   ·rw [Array.getElem?_setIfInBounds_ne (Ne.symm hji)];simp [hji]
  rw [e];have hm:i∈(List.range ops.size).filter fun j=>L[j]? != some true:=by
   rw [List.mem_filter];exact ⟨by simpa using h1,by rw [h2];simp⟩
  have:(((List.range ops.size).filter fun j=>L[j]? != some true).filter fun j=>j != i).length<((List.range ops.size).filter fun j=>L[j]? != some true).length:=by
   refine List.length_filter_lt_length_iff_exists.2 ⟨i,hm,by simp⟩
  omega
theorem evDraw_wp {ρ:Rho} {M M':Mem} {a:Act} {w:World} {id:Nat} (hcl:Fits P w0 G cl) (hmix:P.follows .mixedOrders=true) (h:evDraw P cl G sz ops tv0 M=some (tv',M')) (hT:TR G ρ sz tv0 a) (hM:MR w0 ρ M w)
  (k:∀ ρ' a' w',Grow ρ M ρ' M'→MR w0 ρ' M' w'→TR G ρ' sz tv' a'→Q .normal a' w'):(Code.region id ops true).wp P Q a w:=by
 unfold evDraw at h
 split at h
 ·cases h
 ·rename_i W A S hlay
  split at h
  ·cases h
  ·rename_i M0 hh
   split at h
   ·rename_i all Mm ns hp
    split at h
    ·rename_i tv1 hwin hput
     cases h
     unfold layOf at hlay;dsimp only at hlay
     split at hlay
     ·rename_i huq
      split at hlay
      ·rename_i hck
       simp only [Option.some.injEq,Lay.mk.injEq] at hlay;obtain ⟨hW,hA,hS⟩:=hlay;rw [hW] at hS huq hck;rw [hS] at hck;simp only [Bool.and_eq_true] at hck;obtain ⟨⟨hch,hlen⟩,hoE⟩:=hck;have hlen:S.length=ops.size:=by have:=Nat.eq_of_beq_eq_true hlen;simpa using this
       obtain ⟨ar,ar1,ar2,ar3⟩:=ancs_spec ops.toList [];have hsp:∀ (i:Nat) (s:St),S[i]?=some s→ops.toList[i]?=some s.o∧(ancs ops.toList [])[i]?=some s.an∧s.cl=clsOf W ops.toList s.o:=fun i s hs=>by
        rw [← hS] at hs;exact sts_spec W _ _ _ _ i s hs
       obtain ⟨⟨pp,p1,p2⟩,⟨qq,q1⟩,hst,hKK⟩:=pass_spec (P:=P) (cl:=cl) (ops:=ops) (W:=W) (A:=A) (G:=G) (tv0:=tv0) (base:=M.nx) ops.toList ops.toList (ancs ops.toList []) 0 0 [] [M0] all (M'::ns) (by rw [hS];exact hp) rfl rfl;rw [hS] at p2 hst hKK;obtain ⟨hh1,hh2⟩:=hoist_spec S 0 _ _ hh;have hN0:nth (M'::ns) 0=some M0:=by rw [q1,nth_app (by simp)];rfl
       have hal:all.length=S.length:=by rw [p1];simp [p2]
       obtain ⟨pa1,pa2⟩:=putAll_spec S 0 tv0 tv' hput;have hfresh:∀ u,ρ (M.nx+u)=none:=fun u=>hM.fresh _ (by omega);have hanA:∀ (i:Nat) (s:St),S[i]?=some s→∀ j,s.an.testBit j=true→∃ e∈s.o.after.toList,Region.binds .any e=true∧(j=e.on∨∃ t,S[e.on]?=some t∧t.an.testBit j=true):=fun i s hs j hj=>by
        obtain ⟨b1,b2,_⟩:=hsp i s hs;have b3:=ar3 i s.o b1 j (by rw [ar1] at b2;simp only [List.nil_append,List.length_nil,Nat.zero_add] at b2 ⊢;rw [b2];exact hj);obtain ⟨e,e1,e2,e3⟩:=b3;refine ⟨e,e1,e2,e3.imp (fun x=>x) fun e4=>?_⟩;simp only [List.nil_append] at e4;have hlt:e.on<S.length:=by
         refine Nat.lt_of_not_le fun hge=>?_;rw [List.getElem?_eq_none (by rw [ar2];simp;omega)] at e4;simp at e4
        refine ⟨S[e.on],List.getElem?_eq_getElem hlt,?_⟩;have:=(hsp e.on _ (List.getElem?_eq_getElem hlt)).2.1;rw [ar1,List.nil_append] at this;rw [this] at e4;exact e4
       have hltA:∀ (i:Nat) (s:St),S[i]?=some s→∀ j,s.an.testBit j=true→j<i:=by
        intro i
        induction i using Nat.strongRecOn with
        | _ i ih =>
         intro s hs j hj;obtain ⟨e,e1,e2,e3⟩:=hanA i s hs j hj;have he:=okE_spec _ 0 hoE i s.o (hsp i s hs).1 e e1 e2
         rcases e3 with rfl | ⟨t,e4,e5⟩
         ·omega
         ·have:=ih e.on (by omega) t e4 j e5;omega
       have D:Data P cl w0 W A S G sz M.nx tv0 all (M'::ns) M0 ops:=by
        refine ⟨hW.symm,huq,hlen,hoE,fun i s hs=>by simpa using (hsp i s hs).1,fun i s hs=>(hsp i s hs).2.2,fun i s hs=>by rw [← hA];exact (hsp i s hs).2.1,by rw [← hA,ar1,hlen];simp [ar2],hltA,hanA,fun i s hs hc=>?_,fun i j s t hs ht hc1 hc2 hrk=>?_,hal,fun i s hs=>?_,fun i s hs hc=>?_,fun i s d hs hd=>pa1 i s d hs hd,fun i s hs hc v cs he y hy=>?_⟩
        ·rw [← hS] at hs hch ⊢;obtain ⟨_,k2⟩:=chain_spec W _ _ _ 0 0 none hch i s hs hc
         rcases k2 with ⟨k2,_⟩ | ⟨u,t,k2,k3,k4,k5⟩
         ·exact .inl k2
         ·exact .inr ⟨u,t,k2,k3,k4,by rw [Nat.zero_add] at k5;exact k5⟩
        ·rw [← hS] at hs ht;have hr:=(sts_rk W ops.toList ops.toList (ancs ops.toList []) 0).2
         rcases Nat.lt_trichotomy i j with g | g | g
         ·have:=hr i j s t g hs ht hc1;omega
         ·exact g
         ·have:=hr j i t s g ht hs hc2;omega
        ·obtain ⟨_,v,N,N',rv',x1,x2,⟨q,x3⟩,x4,x5,x6,_⟩:=hst i s hs;rw [Nat.zero_add] at x1 x2 x4;exact ⟨v,N,N',rv',x1,x2,⟨q++[v],by rw [x3];simp⟩,x4,x5,x6⟩
        ·have hi:i<all.length:=by rw [hal];exact (List.getElem?_eq_some_iff.1 hs).1
         have hwn:wl S 0=[]∨win P ops W A G tv0 (wl S 0) all S.length (M'::ns).reverse S 0=true:=by
          unfold win0 at hwin
          split at hwin
          ·rename_i e;exact .inl e
          ·exact .inr hwin
         rcases hwn with hnil | hwin
         ·obtain ⟨_,v,N,N',rv',x1,x2,⟨q,x3⟩,x4,x5,x6,_⟩:=hst i s hs;rw [Nat.zero_add] at x4;refine .inr ⟨v,x4,fun k N1 hk=>.inl ?_⟩;obtain ⟨n1,n2⟩:=nth_some hk;obtain ⟨n3,_⟩:=nth_some x5;have h0:∀ k,0<k→k<(M'::ns).length→False:=fun k h1 h2=>by
           obtain ⟨u,t,b1,b2,_⟩:=hKK k h1 h2;exact wl_nil S 0 hnil u t b1 b2
          rcases Nat.eq_zero_or_pos k with e1 | e1
          ·rcases Nat.eq_zero_or_pos s.rk with e2 | e2
           ·omega
           ·exact (h0 _ e2 n3).elim
          ·exact (h0 _ e1 n1).elim
         rcases win_spec S 0 hwin i s hs hc with g | ⟨v,g1,g2⟩
         ·rw [Nat.zero_add] at g;exact .inl g
         ·refine .inr ⟨v,by rw [nth_lt hi,hal];rw [Nat.zero_add] at g1;exact g1,fun k N hk=>?_⟩;obtain ⟨n1,n2⟩:=nth_some hk;have:=g2 k N (by rw [List.getElem?_reverse n1];exact n2);simp only [Nat.zero_add] at this;exact this
        ·rcases hh2 _ y hy with ⟨u,s',v',cs',b1,b2,b3,b4,b5⟩ | ⟨_,hno⟩
         ·have:u=i:=by omega
          subst this;rw [hs] at b1;cases b1;rw [he] at b4;cases b4;exact b5
         ·exact absurd (by omega) (hno i s hs hc)
       have hg0:Grow ρ M ρ M0:=⟨fun _ _=>rfl,by rw [hh1];exact Nat.le_add_right _ _,fun b y hb _ hy=>by
        rcases hh2 b y hy with ⟨u,_,_,_,_,_,b3,_⟩ | ⟨hy,_⟩
        ·omega
        ·exact hy⟩
       refine wp_region_any hmix (any_wp (ρ0:=ρ) (M00:=M) (Q:=Q) D hcl (Nat.le_refl _) ?_ ops.size _ a _ ?_ ⟨ρ,0,M0,?_⟩)
       ·intro ρ' kk N L a' w' hI hall;obtain ⟨n1,n2⟩:=nth_some hI.at_;have hkk:kk=ns.length:=by
         simp only [List.length_cons] at n1
         rcases Nat.lt_or_ge kk ns.length with g | g
         ·exfalso
          obtain ⟨u,s,b1,b2,b3⟩:=hKK (kk+1) (by omega) (by simp;omega);have:=(hI.K u s b1 b2).1 (hall u (by rw [← hlen];exact (List.getElem?_eq_some_iff.1 b1).1));omega
         ·omega
        have hN:N=M':=by
         have:=hI.at_;rw [hkk,nth_cons] at this
         cases this;rfl
        subst hN;refine k ρ' a' w' hI.gr hI.mr ⟨hI.defers,hI.tsz,fun t v e=>?_,hI.glob⟩
        rcases pa2 t v e with ⟨u,s,b1,b2,b3⟩ | ⟨b1,b2⟩
        ·have hi:=(List.getElem?_eq_some_iff.1 b1).1;obtain ⟨v1,v',c1,c2,c3⟩:=hI.t1 u s t b1 (hall u (by omega)) b2;rw [nth_lt (by omega),hal] at c1;rw [Nat.zero_add,c1] at b3
         cases b3
         exact ⟨v',c2,c3⟩
        ·refine hI.t2 t v b1 fun j hl=>?_
         ·skip
          rw [← hW] at hl;obtain ⟨i,o,c1,c2,c3⟩:=lk_wrs _ _ _ _ hl;have hi:i<S.length:=by rw [hlen];have:=(List.getElem?_eq_some_iff.1 c2).1;simpa using this
          have c4:=(hsp i _ (List.getElem?_eq_getElem hi)).1;rw [c2] at c4;simp only [Option.some.injEq] at c4;exact absurd (by rw [← c4];exact c3) (b2 i _ (List.getElem?_eq_getElem hi))
       ·exact Nat.le_trans (List.length_filter_le _ _) (by simp)
       ·have hmr:MR w0 ρ M0 { w with drawn:=w.drawn+1 }:=hoist_MR S 0 _ _ hh hfresh ((hM.raise (Nat.le_add_right _ _)).same rfl rfl rfl rfl);have hfl:∀ (i:Nat),(Array.replicate ops.size false)[i]?≠some true:=fun i=>by
         rw [Array.getElem?_replicate];split<;>simp
        refine ⟨by simp [hlen],fun i s hi _=>absurd hi (hfl i),hN0,hmr,hg0,by rw [hh1];exact Nat.le_refl _,fun i s _ _=>⟨fun e=>absurd e (hfl i),fun e=>by omega⟩,fun i s _ _ _=>⟨hfresh i,fun y hy=>hy⟩,hT.defers,hT.size,hT.glob,fun i s d _ hi _=>absurd hi (hfl i),fun t v e _=>hT.tmp t v e⟩
      ·cases hlay
     ·cases hlay
    ·cases h
   ·cases h
end
end
noncomputable section
inductive Ex where
 | n
 | x (id:Nat)
 | r
def Ex.to:Ex→Exit
 | .n=>.normal
 | .x id=>.exit id
 | .r=>.ret
abbrev Cd:=Code→T Value→Mem→Option (Ex×T Value×Mem)
def stepCode (P:Program) (cl:Cl) (G sz:Nat) (ih:Cd) (c:Code) (tv:T Value) (M:Mem):Option (Ex×T Value×Mem) :=
 match c with
 | .skip=>some (.n,tv,M)
 | .label _=>some (.n,tv,M)
 | .region _ ops draw=>match draw with
  | false=>match evOps P cl G sz ops ops.toList tv M with
   | some (tv',M')=>some (.n,tv',M')
   | none=>none
  | true=>match evDraw P cl G sz ops tv M with
   | some (tv',M')=>some (.n,tv',M')
   | none=>none
 | .seq a b=>match ih a tv M with
  | some (.n,tv',M')=>ih b tv' M'
  | r=>r
 | .cond c a b=>match opv G tv c with
  | some (.bool true)=>ih a tv M
  | some (.bool false)=>ih b tv M
  | _=>none
 | .block id b=>match ih b tv M with
  | some (.x i,tv',M')=>match Nat.beq i id with
   | true=>some (.n,tv',M')
   | false=>some (.x i,tv',M')
  | r=>r
 | .loop b=>match ih b tv M with
  | some (.n,tv',M')=>ih (.loop b) tv' M'
  | r=>r
 | .exit id=>some (.x id,tv,M)
 | .scope b=>ih b tv M
 | .ret=>some (.r,tv,M)
 | _=>none
def evCode (P:Program) (cl:Cl) (G sz:Nat) (f:Nat):Cd :=
 Nat.rec (motive:=fun _=>Cd) (fun _ _ _=>none) (fun _ ih=>stepCode P cl G sz ih) f
section
variable {P:Program} {cl:Cl} {G sz:Nat} {w0:World}
theorem evCode_wp (hcl:Fits P w0 G cl) (hmix:P.follows .mixedOrders=true):∀ (f:Nat) (c:Code) (tv:T Value) (M:Mem) (e:Ex) (tv':T Value) (M':Mem),evCode P cl G sz f c tv M=some (e,tv',M') →
  ∀ (ρ:Rho) (a:Act) (w:World) (Q:Exit→Act→World→Prop),TR G ρ sz tv a→MR w0 ρ M w→(∀ ρ' a' w',Grow ρ M ρ' M'→MR w0 ρ' M' w'→TR G ρ' sz tv' a'→Q e.to a' w')→c.wp P Q a w:=by
 intro f
 induction f using Nat.strongRecOn with
 | _ f0 ih0 =>
 cases f0 with
 | zero=>intro c tv M e tv' M' h;cases h
 | succ f =>
  have ih:=ih0 f (Nat.lt_succ_self f);intro c tv M e tv' M' h ρ a w Q hT hM k
  change stepCode P cl G sz (evCode P cl G sz f) c tv M=some (e,tv',M') at h
  unfold stepCode at h
  split at h
  ·cases h;exact wp_skip (k ρ a w (Grow.refl _ _) hM hT)
  ·cases h;exact wp_label (k ρ a w (Grow.refl _ _) hM hT)
  ·rename_i id ops draw
   split at h
   ·split at h
    ·rename_i tv1 M1 hr
     cases h
     refine wp_region (evOps_wp hcl ops.toList (List.range ops.size) tv M ρ a w tv' M' ?_ hr hT hM k);apply List.ext_getElem?;intro i;simp only [List.getElem?_map]
     by_cases hi:i<ops.size
     ·simp [hi]
     ·simp [hi]
    ·cases h
   ·split at h
    ·rename_i tv1 M1 hr
     cases h
     exact evDraw_wp hcl hmix hr hT hM k
    ·cases h
  ·rename_i x y
   split at h
   ·rename_i tv1 M1 h1
    refine wp_seq (ih x tv M .n tv1 M1 h1 ρ a w _ hT hM fun ρ1 a1 w1 g1 m1 t1=>?_);exact ih y tv1 M1 e tv' M' h ρ1 a1 w1 Q t1 m1 fun ρ2 a2 w2 g2 m2 t2=>k ρ2 a2 w2 (g1.trans g2) m2 t2
   ·rename_i r hr
    refine wp_seq (ih x tv M e tv' M' h ρ a w _ hT hM fun ρ1 a1 w1 g1 m1 t1=>?_);have:=k ρ1 a1 w1 g1 m1 t1
    cases e with
    | n=>exact absurd h (hr tv' M')
    | x id=>exact this
    | r=>exact this
  ·rename_i c x y
   split at h
   ·rename_i hc
    have:=(hT.ev _ _ hc).bool_inv;exact wp_cond_true this (ih x tv M e tv' M' h ρ a w Q hT hM k)
   ·rename_i hc
    have:=(hT.ev _ _ hc).bool_inv;exact wp_cond_false this (ih y tv M e tv' M' h ρ a w Q hT hM k)
   ·cases h
  ·rename_i id b
   split at h
   ·rename_i i tv1 M1 h1
    split at h
    ·rename_i hb
     cases h
     have hb:=Nat.eq_of_beq_eq_true hb;refine wp_block (ih b tv M (.x i) tv' M' h1 ρ a w _ hT hM fun ρ1 a1 w1 g1 m1 t1=>?_);show Exit.inBlock id Q (.exit i) a1 w1;simp only [Exit.inBlock,hb,if_true];exact k ρ1 a1 w1 g1 m1 t1
    ·rename_i hb
     cases h
     refine wp_block (ih b tv M (.x i) tv' M' h1 ρ a w _ hT hM fun ρ1 a1 w1 g1 m1 t1=>?_);show Exit.inBlock id Q (.exit i) a1 w1;have hne:¬ i=id:=fun e=>by rw [e,show Nat.beq id id=true from Nat.beq_refl id] at hb;cases hb
     simp only [Exit.inBlock,hne,if_false];exact k ρ1 a1 w1 g1 m1 t1
   ·rename_i r hr
    refine wp_block (ih b tv M e tv' M' h ρ a w _ hT hM fun ρ1 a1 w1 g1 m1 t1=>?_);have:=k ρ1 a1 w1 g1 m1 t1
    cases e with
    | n=>exact this
    | x id=>exact absurd h (hr id tv' M')
    | r=>exact this
  ·rename_i b
   let I:Nat→Act→World→Prop:=fun n a w=>n≤f+1∧∃ ρ1 tv1 M1,Grow ρ M ρ1 M1∧TR G ρ1 sz tv1 a∧MR w0 ρ1 M1 w∧evCode P cl G sz n (.loop b) tv1 M1=some (e,tv',M')
   refine wp_loop_ghost I (f+1) ⟨Nat.le_refl _,ρ,tv,M,Grow.refl _ _,hT,hM,by exact h⟩ ?_;rintro n a1 w1 ⟨hn,ρ1,tv1,M1,g1,t1,m1,h1⟩
   cases n with
   | zero=>cases h1
   | succ n =>
    change stepCode P cl G sz (evCode P cl G sz n) (.loop b) tv1 M1=some (e,tv',M') at h1
    unfold stepCode at h1;dsimp only at h1;have ihn:=ih0 n (by omega)
    split at h1
    ·rename_i tv2 M2 h2
     refine ihn b tv1 M1 .n tv2 M2 h2 ρ1 a1 w1 _ t1 m1 fun ρ2 a2 w2 g2 m2 t2=>?_;exact ⟨n,by omega,by omega,ρ2,tv2,M2,g1.trans g2,t2,m2,h1⟩
    ·rename_i r hr
     refine ihn b tv1 M1 e tv' M' h1 ρ1 a1 w1 _ t1 m1 fun ρ2 a2 w2 g2 m2 t2=>?_;have:=k ρ2 a2 w2 (g1.trans g2) m2 t2
     cases e with
     | n=>exact absurd h1 (hr tv' M')
     | x id=>exact this
     | r=>exact this
  ·cases h;exact wp_exit (k ρ a w (Grow.refl _ _) hM hT)
  ·rename_i b
   refine wp_scope_straight (ih b tv M e tv' M' h ρ a w _ hT hM fun ρ1 a1 w1 g1 m1 t1=>?_);have:=k ρ1 a1 w1 g1 m1 t1
   cases e<;>exact this
  ·cases h;exact wp_ret (k ρ a w (Grow.refl _ _) hM hT)
  ·cases h
end
def evLd (P:Program) (M:Mem) (t:TypeId) (p:Value):Option Value :=
 match p with
 | .pointer (some ⟨b,off,none⟩)=>match isAggT P t,szOf P t with
  | some true,some n=>match M.ld b off n with
   | some l=>some (.agg l.toArray)
   | none=>none
  | some false,_=>match M.ld b off 1 with
   | some [v]=>some v
   | _=>none
  | _,_=>none
 | _=>none
def is1:Value→Bool
 | .tuple _=>false
 | _=>true
def evRes (P:Program) (tv:T Value) (M:Mem):List ResultVar→Option (List Value)
 | []=>some []
 | .tmp t::l=>match tv.get t,evRes P tv M l with
  | some v,some r=>match is1 v with
   | true=>some (v::r)
   | false=>none
  | _,_=>none
 | .cell a t::l=>match tv.get a with
  | some p=>match evLd P M t p,evRes P tv M l with
   | some v,some r=>some (v::r)
   | _,_=>none
  | none=>none
def pack:List Value→Value
 | [v]=>v
 | l=>.tuple l.toArray
def initT:List Value→Nat→T Value→T Value
 | [],_,t=>t
 | v::l,i,t=>initT l (i+1) (t.set FU i v)
def stepCall (P:Program) (G F:Nat) (ih:Cl) (f:FuncId) (args:List Value) (M:Mem):Option (Value×Mem) :=
 match P.funcs[f]? with
 | none=>none
 | some fn=>match fn.body with
  | none=>none
  | some c=>match evCode P ih G (args.length+(fn.ntmps-args.length)) F c (initT args 0 .e) M with
   | some (.n,tv,M')=>match evRes P tv M' fn.results.toList with
    | some l=>some (pack l,M')
    | none=>none
   | some (.r,tv,M')=>match evRes P tv M' fn.results.toList with
    | some l=>some (pack l,M')
    | none=>none
   | _=>none
def evCall (P:Program) (G F:Nat) (n:Nat):Cl :=
 Nat.rec (motive:=fun _=>Cl) (fun _ _ _=>none) (fun _ ih=>stepCall P G F ih) n
section
variable {P:Program} {G sz F:Nat} {w0:World} {ρ:Rho}
theorem evLd_run {M:Mem} {w:World} (hM:MR w0 ρ M w) {t:TypeId} {p p' v:Value} (hp:VR ρ p p') (h:evLd P M t p=some v):∃ v',V1 ρ v v'∧(do loadVar t (← asAddr p'):Sem Value).run P w=.ok v' w:=by
 unfold evLd at h
 split at h
 ·rename_i b off
  obtain ⟨B,O,N,e1,rfl⟩:=hp.ptr_inv
  split at h
  ·rename_i n ha hs
   split at h
   ·rename_i l hl
    cases h
    obtain ⟨l',a1,a2,a3⟩:=hM.ld hl e1;refine ⟨.agg l'.toArray,.agg (by simpa using a1),?_⟩;have hr:=run_loadCells_list (P:=P) w ⟨B,O+off,none⟩ l' (fun j v e=>by rw [Addr.add_lit];exact a3 j v e);rw [a2] at hr;simp [asAddr,loadVar,run_isAggT ha,run_szOf hs,hr]
   ·cases h
  ·rename_i ha
   split at h
   ·rename_i u hl
    cases h
    obtain ⟨l',a1,a2,a3⟩:=hM.ld hl e1
    cases a1 with
    | @cons _ v' _ _ r t' =>
     have:=a3 0 v' rfl;refine ⟨v',.sc r,?_⟩;simp only [Nat.add_zero] at this;simp [asAddr,loadVar,run_isAggT ha,this]
   ·cases h
  ·cases h
 ·cases h
theorem VR.is1 {v v':Value} (h:VR ρ v v') (e:is1 v=true):V1 ρ v v':=by
 cases h with
 | one h=>exact h
 | tup h=>cases e
theorem evRes_run {M:Mem} {w:World} {tv:T Value} {a:Act} (hM:MR w0 ρ M w) (hT:TR G ρ sz tv a):∀ (l:List ResultVar) (r:List Value),evRes P tv M l=some r→∃ r',LR (V1 ρ) r r'∧(l.mapM (m:=Sem) fun
  | .tmp t=>pure (a.tmps.getD t undef)
  | .cell x t=>do loadVar t (← asAddr (a.tmps.getD x undef))).run P w=.ok r' w
 | [],r,h=>by cases h;exact ⟨[],.nil,rfl⟩
 | .tmp t::l,r,h=>by
  unfold evRes at h
  split at h
  ·rename_i v r1 h1 h2
   split at h
   ·rename_i hi
    cases h
    obtain ⟨r',b1,b2⟩:=evRes_run hM hT l r1 h2;obtain ⟨v',c1,c2⟩:=hT.tmp t v h1;have hg:a.tmps.getD t undef=v':=by rw [Array.getD_eq_getD_getElem?,c1];rfl
    refine ⟨v'::r',.cons (c2.is1 hi) b1,?_⟩;rw [List.mapM_cons];dsimp only;rw [hg,Sem.run_bind];show Result.andThen (.ok v' w) _=_;simp only [Result.andThen_ok,Sem.run_bind,b2]
    rfl
   ·cases h
  ·cases h
 | .cell x t::l,r,h=>by
  unfold evRes at h
  split at h
  ·rename_i p hp
   split at h
   ·rename_i v r1 h1 h2
    cases h
    obtain ⟨r',b1,b2⟩:=evRes_run hM hT l r1 h2;obtain ⟨p',c1,c2⟩:=hT.tmp x p hp;have hg:a.tmps.getD x undef=p':=by rw [Array.getD_eq_getD_getElem?,c1];rfl
    obtain ⟨v',d1,d2⟩:=evLd_run hM c2 h1;refine ⟨v'::r',.cons d1 b1,?_⟩;rw [List.mapM_cons];dsimp only;rw [hg,Sem.run_bind,d2];simp only [Result.andThen_ok,Sem.run_bind,b2]
    rfl
   ·cases h
  ·cases h
theorem results_run {M:Mem} {w:World} {tv:T Value} {a:Act} {fn:Func} {l:List Value} (hM:MR w0 ρ M w) (hT:TR G ρ sz tv a) (h:evRes P tv M fn.results.toList=some l):∃ v',VR ρ (pack l) v'∧(results fn a.tmps).run P w=.ok v' w:=by
 obtain ⟨r',b1,b2⟩:=evRes_run (P:=P) hM hT _ _ h;have hr:(results fn a.tmps).run P w=.ok (if h:r'.toArray.size=1 then r'.toArray[0] else .tuple r'.toArray) w:=by
  unfold results;rw [Sem.run_bind,Array.mapM_eq_mapM_toList];have:((List.toArray <$> fn.results.toList.mapM (m:=Sem) fun
   | .tmp t=>pure (a.tmps.getD t undef)
   | .cell x t=>do loadVar t (← asAddr (a.tmps.getD x undef)))).run P w=.ok r'.toArray w:=by
   simp only [Sem.run_map,b2];rfl
  exact (congrArg (fun z=>Result.andThen z _) this).trans rfl
 refine ⟨_,?_,hr⟩
 cases b1 with
 | nil=>exact .tup .nil
 | cons g t=>cases t with
  | nil=>exact .one g
  | cons g2 t2=>exact .tup (.cons g (.cons g2 t2))
theorem initT_spec:∀ (l:List Value) (i:Nat) (t:T Value) (j:Nat) (v:Value),(initT l i t).get j=some v→(∃ u,j=i+u∧l[u]?=some v)∨t.get j=some v
 | [],_,_,_,_,h=>.inr h
 | x::l,i,t,j,v,h=>by
  rcases initT_spec l (i+1) _ j v h with ⟨u,e1,e2⟩ | h
  ·exact .inl ⟨u+1,by omega,by simpa using e2⟩
  ·rcases T.get_set _ _ _ _ _ _ h with ⟨rfl,rfl⟩ | ⟨_,h⟩
   ·exact .inl ⟨0,rfl,rfl⟩
   ·exact .inr h
theorem evCall_fits (hmix:P.follows .mixedOrders=true):∀ n,Fits P w0 G (evCall P G F n)
 | 0=>fun _ _ _ _ _ h=>by cases h
 | n+1=>by
  intro f args M v M' h ρ w args' hgl hM hargs
  change stepCall P G F (evCall P G F n) f args M=some (v,M') at h
  unfold stepCall at h
  split at h
  ·cases h
  ·rename_i fn hfn
   split at h
   ·cases h
   ·rename_i c hc
    have hlen:args.length=args'.size:=by rw [hargs.len];simp
    have hT0:TR G ρ (args.length+(fn.ntmps-args.length)) (initT args 0 .e) { tmps:=args'++Array.replicate (fn.ntmps-args'.size) undef,defers:=[] }:=by
     refine ⟨rfl,by simp [hlen],fun t u e=>?_,hgl⟩
     rcases initT_spec _ _ _ _ _ e with ⟨j,e1,e2⟩ | e
     ·rw [Nat.zero_add] at e1;subst e1;obtain ⟨u',a1,a2⟩:=hargs.get e2;refine ⟨u',?_,a2⟩;have hlt:=(List.getElem?_eq_some_iff.1 e2).1;rw [Array.getElem?_append_left (by omega)]
      simpa using a1
     ·rw [T.get_e] at e;cases e
    refine calls_of_wp hfn hc ?_;have fin:∀ {e:Ex} {tv:T Value} {M1:Mem} {l:List Value},evCode P (evCall P G F n) G (args.length+(fn.ntmps-args.length)) F c (initT args 0 .e) M=some (e,tv,M1)→(e=.n∨e=.r)→evRes P tv M1 fn.results.toList=some l →
      c.wp P (bodyPost P fn fun e w'=>∃ v',e=.returned v'∧∃ ρ',Grow ρ M ρ' M1∧MR w0 ρ' M1 w'∧VR ρ' (pack l) v') { tmps:=args'++Array.replicate (fn.ntmps-args'.size) undef,defers:=[] } w:=fun {e tv M1 l} h1 he h2=>by
     refine evCode_wp (evCall_fits hmix n) hmix F c _ _ _ _ _ h1 ρ _ w _ hT0 hM fun ρ' a' w' g m t=>?_;obtain ⟨v',r1,r2⟩:=results_run (P:=P) (fn:=fn) m t h2
     rcases he with rfl | rfl
     ·exact ⟨t.defers,v',r2,v',rfl,ρ',g,m,r1⟩
     ·exact ⟨t.defers,v',r2,v',rfl,ρ',g,m,r1⟩
    split at h
    ·rename_i tv M1 h1
     split at h
     ·rename_i l h2
      cases h
      exact fin h1 (.inl rfl) h2
     ·cases h
    ·rename_i tv M1 h1
     split at h
     ·rename_i l h2
      cases h
      exact fin h1 (.inr rfl) h2
     ·cases h
    ·cases h
def yes (P:Program) (G F n:Nat) (M:Mem) (f:FuncId) (args:List Value):Bool :=
 match evCall P G F n f args M with
 | some (.bool true,_)=>true
 | _=>false
theorem MR.start (w:World) (G N:Nat) (tab:List Value) (hG:G<w.heap.size) (hp:all1 tab=true) (ht:∀ (j:Nat) (v:Value),tab[j]?=some v→w.cell? ⟨G,j,none⟩=some v) :
  MR w (fun b=>if b=G then some (G,0,N) else none) ⟨(T.e:T Blk).set FU G (.ro tab.length (wr .e 0 tab)),G+1⟩ w:=by
 have inv:∀ {b x},(if b=G then some (G,0,N) else none)=some x→b=G∧x=(G,0,N):=fun {b x} e=>by
  split at e
  ·rename_i h;exact ⟨h,(Option.some.inj e).symm⟩
  ·cases e
 have gt:∀ {j y},((T.e:T Blk).set FU G (.ro tab.length (wr .e 0 tab))).get j=some y→y=.ro tab.length (wr .e 0 tab):=fun {j y} e=>by
  rcases T.get_set _ _ _ _ _ _ e with ⟨_,e⟩ | ⟨_,e⟩
  ·exact e
  ·rw [T.get_e] at e;cases e
 refine ⟨Below.refl _ _,fun b hb=>if_neg (by dsimp only at hb;omega),?_,?_,?_,?_,?_,?_,?_⟩
 ·intro b n t B O N' g e;cases gt g
 ·intro b n t B O N' g e;obtain ⟨rfl,e2⟩:=inv e
  cases e2
  have:=gt g
  injection this with e3 e4
  subst e3 e4;refine ⟨hG,fun j v hj hv=>?_⟩
  rcases get_wr _ _ _ _ _ hv with ⟨i,e1,e2⟩ | ⟨_,e2⟩
  ·rw [Nat.zero_add] at e1;subst e1;exact ⟨all1_mem hp v (List.mem_of_getElem? e2),by rw [Nat.zero_add];exact ht _ _ e2⟩
  ·rw [T.get_e] at e2;cases e2
 ·intro b es c B O N' g e;cases gt g
 ·intro b m s k p B O N' g e;cases gt g
 ·intro b1 n1 t1 b2 n2 t2 B O1 N1 O2 N2 j1 j2 g1 _ _ _ _ _ _;cases gt g1
 ·intro b1 x1 b2 x2 B O1 N1 O2 N2 g1 g2 k1 _ _ _;rw [gt g1] at k1
  rcases k1 with ⟨_,_,e⟩ | ⟨_,_,_,_,e⟩<;>cases e
 ·intro b B O N' e;obtain ⟨_,e2⟩:=inv e
  cases e2;exact hG
theorem yes_calls (hmix:P.follows .mixedOrders=true) {F n f G:Nat} {tab:List Value} {w:World} (hG:G<w.heap.size) (hp:all1 tab=true) (ht:∀ (j:Nat) (v:Value),tab[j]?=some v→w.cell? ⟨G,j,none⟩=some v)
  (h:yes P G F n ⟨(T.e:T Blk).set FU G (.ro tab.length (wr .e 0 tab)),G+1⟩ f []=true):Calls P f #[] w fun e w'=>e=.returned (.bool true)∧Below w.heap.size w w':=by
 unfold yes at h
 split at h
 ·rename_i M' he
  refine (evCall_fits (w0:=w) hmix n f [] _ _ _ he _ w #[] ⟨0,if_pos rfl⟩ (MR.start w G 0 tab hG hp ht) .nil).mono ?_;rintro e w' ⟨v',rfl,ρ',g,m,r⟩;exact ⟨by rw [r.bool_inv],m.below⟩
 ·cases h
end
end
end Go.Vm
