/-
  Parts of the proof: ReadyP ReadyQ Wait WaitB WaitE Sema ReadyA Region AuditP DeltaP Rec Copy RegionB DeltaA DelC Mail MailB MailC MailE LockP LockA LockB LockC LockE LockI RegionD LockM LockN LockQ.
-/
import Derived.Test.YtkeommmigopnkaaGreatDoorProg
import Derived.Deep.QuietTactic
import Derived.BigQuiet
import Derived.WalkSpells
import Derived.StillTailTactics
import Derived.Shelf.Spec.TrailingZeros
import Derived.Deep.DeepCutAuto
import Derived.Deep.CutBlock
import Derived.OrdersHeld
import Derived.RegionTactic
import Derived.Laws.IdiomCopy
import Derived.Lib.Overlaps
import Derived.Lib.AppendZerosOnto
import Derived.Laws.Externs
import Derived.Shelf.Abstract
import Derived.Handy
import Derived.WalkMore
import Derived.Test.YtkeommmigopnkaaGreatDoorKF2
set_option linter.unusedVariables false
set_option linter.unusedSimpArgs false
set_option maxHeartbeats 32000000
set_option maxRecDepth 100000
namespace Go.Rq
def fst:List Nat→Int
 | []=>-1
 | a::_=>a
def nxt:List Nat→Nat→Int
 | [],_=>-1
 | a::q,t=>if a=t then fst q else nxt q t
def prv (p:Int):List Nat→Nat→Int
 | [],_=>p
 | a::q,t=>if a=t then p else prv a q t
def lst (p:Int):List Nat→Int
 | []=>p
 | a::q=>lst a q
theorem lst_append (x:Nat):∀ (p:Int) (q:List Nat),lst p (q++[x])=x
 | _,[]=>rfl
 | _,a::q=>lst_append x a q
theorem fst_append (q:List Nat) (x:Nat):fst (q++[x])=if q=[] then (x:Int) else fst q:=by cases q<;>simp [fst]
theorem nxt_append {q:List Nat} {x t:Nat} (ht:t∈q) (hn:(q++[x]).Nodup):nxt (q++[x]) t=if lst (-1) q=(t:Int) then (x:Int) else nxt q t:=by
 have key:∀ (q:List Nat) (p:Int),t∈q→(q++[x]).Nodup→nxt (q++[x]) t=if lst p q=(t:Int) then (x:Int) else nxt q t:=by
  intro q
  induction q with
  | nil=>intro p h;cases h
  | cons a q ih =>
   intro p h hn;simp only [List.cons_append,List.nodup_cons] at hn
   by_cases e:a=t
   ·subst e;simp only [List.cons_append,nxt,if_true,lst]
    cases q with
    | nil=>simp [fst,lst]
    | cons b q =>
     rw [if_neg]
     ·rfl
     ·intro hl;have:a∈b::q:=by
       have hm:∀ (q:List Nat) (b:Nat), ∃ m∈b::q,lst (a:Int) (b::q)=(m:Int):=by
        intro q
        induction q with
        | nil=>intro b;exact ⟨b,by simp,rfl⟩
        | cons c q ih2 =>
         intro b;obtain ⟨m,hm,he⟩:=ih2 c;exact ⟨m,by simp at hm ⊢;exact .inr hm,he⟩
       obtain ⟨m,hm,he⟩:=hm q b;rw [he] at hl;have:m=a:=by omega
       rwa [← this]
      exact hn.1 (List.mem_append_left _ this)
   ·simp only [List.cons_append,nxt,if_neg e,lst];exact ih a (by simpa [Ne.symm e,eq_comm,e] using (List.mem_cons.1 h).resolve_left (Ne.symm e)) hn.2
 exact key q (-1) ht hn
theorem nxt_last {q:List Nat} {x:Nat} (hx:x ∉ q):nxt (q++[x]) x=-1:=by
 induction q with
 | nil=>simp [nxt,fst]
 | cons a q ih =>
  have h:a≠x∧x ∉ q:=by simpa [eq_comm,not_or] using hx
  simp only [List.cons_append,nxt,if_neg h.1];exact ih h.2
theorem prv_append {q:List Nat} {x t:Nat} (ht:t∈q):∀ p:Int,prv p (q++[x]) t=prv p q t:=by
 induction q with
 | nil=>cases ht
 | cons a q ih =>
  intro p
  by_cases e:a=t
  ·simp [prv,e]
  ·simp only [List.cons_append,prv,if_neg e];exact ih ((List.mem_cons.1 ht).resolve_left (Ne.symm e)) a
theorem prv_last {q:List Nat} {x:Nat} (hx:x ∉ q):∀ p:Int,prv p (q++[x]) x=lst p q:=by
 induction q with
 | nil=>intro p;simp [prv,lst]
 | cons a q ih =>
  intro p;have h:a≠x∧x ∉ q:=by simpa [eq_comm,not_or] using hx
  simp only [List.cons_append,prv,if_neg h.1,lst];exact ih h.2 a
theorem lst_mem (p:Int):∀ (q:List Nat) (b:Nat), ∃ m∈b::q,lst p (b::q)=(m:Int)
 | [],b=>⟨b,by simp,rfl⟩
 | c::q,b=>by
  obtain ⟨m,hm,he⟩:=lst_mem p q c;refine ⟨m,by simp at hm ⊢;exact .inr hm,?_⟩;simp only [lst] at he ⊢;exact he
theorem lst_or (p:Int) (q:List Nat):(q=[]∧lst p q=p)∨∃ m∈q,lst p q=(m:Int):=by
 cases q with
 | nil=>exact .inl ⟨rfl,rfl⟩
 | cons b q=>exact .inr (lst_mem p q b)
theorem lst_cons (p:Int) (u:List Nat) (x:Nat) (v:List Nat):lst p (u++x::v)=lst x v:=by
 induction u generalizing p with
 | nil=>rfl
 | cons a u ih=>exact ih a
theorem nxt_cut {u v:List Nat} {x t:Nat} (ht:t∈u++v) (hn:(u++x::v).Nodup):nxt (u++v) t=if lst (-1) u=(t:Int) then fst v else nxt (u++x::v) t:=by
 have key:∀ (u:List Nat) (p:Int),(∀ m,p=(m:Nat)→m ∉ u++v∨m≠t)→t∈u++v→(u++x::v).Nodup→p≠(t:Int)→nxt (u++v) t=if lst p u=(t:Int) then fst v else nxt (u++x::v) t:=by
  intro u
  induction u with
  | nil =>
   intro p _ h hn hp;simp only [List.nil_append,List.nodup_cons] at hn h ⊢;have hxt:x≠t:=by rintro rfl;exact hn.1 h
   simp only [lst,if_neg hp,nxt,if_neg hxt]
  | cons a u ih =>
   intro p hp h hn hpt;simp only [List.cons_append,List.nodup_cons] at hn h
   by_cases e:a=t
   ·subst e;simp only [List.cons_append,nxt,if_true,lst]
    cases u with
    | nil=>simp [lst]
    | cons b u =>
     rw [if_neg]
     ·rfl
     ·intro hl;obtain ⟨m,hm,he⟩:=lst_mem (a:Int) u b;rw [he] at hl;have:m=a:=by omega
      subst this;exact hn.1 (List.mem_append_left _ hm)
   ·simp only [List.cons_append,nxt,if_neg e,lst];exact ih a (fun m hm=>.inr (by omega)) ((List.mem_cons.1 h).resolve_left (Ne.symm e)) hn.2 (by omega)
 exact key u (-1) (fun m h=>absurd h (by omega)) ht hn (by omega)
theorem prv_cut {u v:List Nat} {x t:Nat} (ht:t∈u++v) (hn:(u++x::v).Nodup):prv (-1) (u++v) t=if fst v=(t:Int) then lst (-1) u else prv (-1) (u++x::v) t:=by
 have key:∀ (u:List Nat) (p:Int),t∈u++v→(u++x::v).Nodup→prv p (u++v) t=if fst v=(t:Int) then lst p u else prv p (u++x::v) t:=by
  intro u
  induction u with
  | nil =>
   intro p h hn;simp only [List.nil_append,List.nodup_cons] at hn h ⊢;have hxt:x≠t:=by rintro rfl;exact hn.1 h
   cases v with
   | nil=>cases h
   | cons b v =>
    simp only [fst,prv,if_neg hxt,lst]
    by_cases e:b=t
    ·subst e;simp
    ·rw [if_neg e,if_neg (by omega),if_neg e]
  | cons a u ih =>
   intro p h hn;simp only [List.cons_append,List.nodup_cons] at hn h
   by_cases e:a=t
   ·subst e;simp only [List.cons_append,prv,if_true];rw [if_neg];intro hl
    cases v with
    | nil=>simp only [fst] at hl;omega
    | cons b v =>
     simp only [fst] at hl;have:b=a:=by omega
     subst this;exact hn.1 (by simp)
   ·simp only [List.cons_append,prv,if_neg e,lst];exact ih a ((List.mem_cons.1 h).resolve_left (Ne.symm e)) hn.2
 exact key u (-1) ht hn
def ag (l:List Int) (k:Nat):Int:=l.getD k 0
theorem ag_set {l:List Int} {k:Nat} (h:k<l.length) (v:Int) (j:Nat):ag (l.set k v) j=if k=j then v else ag l j:=by
 unfold ag
 by_cases e:k=j
 ·subst e;simp [List.getD,h]
 ·rw [if_neg e];simp [List.getD,List.getElem?_set_ne e]
def up (R:Nat→List Nat) (l:Nat) (q:List Nat):Nat→List Nat:=fun k=>if k=l then q else R k
theorem up_same (R:Nat→List Nat) (l:Nat) (q:List Nat):up R l q l=q:=if_pos rfl
theorem up_other (R:Nat→List Nat) {l k:Nat} (q:List Nat) (h:k≠l):up R l q k=R k:=if_neg h
structure Rep (R:Nat→List Nat) (n:Nat) (fr bk ah af lv:List Int):Prop where
 lfr:fr.length=32
 lbk:bk.length=32
 lah:ah.length=64
 laf:af.length=64
 llv:lv.length=64
 rng:∀ {l t},t∈R l→t<64
 out:∀ {l t},t∈R l→l<32
 nd:∀ l,(R l).Nodup
 one:∀ {l l' t},t∈R l→t∈R l'→l=l'
 bit:∀ {l},l<32→n.testBit l=decide (R l≠[])
 top:n<4294967296
 hfr:∀ {l},R l≠[]→ag fr l=fst (R l)
 hbk:∀ {l},R l≠[]→ag bk l=lst (-1) (R l)
 hah:∀ {l t},t∈R l→ag ah t=prv (-1) (R l) t
 haf:∀ {l t},t∈R l→ag af t=nxt (R l) t
 hlv:∀ {l t},t∈R l→ag lv t=l+1
 hlv0:∀ {t},t<64→(∀ l,t ∉ R l)→ag lv t=0
theorem two_pow_lt {l:Nat} (h:l<32):2^l<4294967296:=Nat.pow_lt_pow_right (by omega) (show l<32 from h)
theorem or_top {n l:Nat} (hn:n<4294967296) (h:l<32):n ||| 2^l<4294967296:=Nat.or_lt_two_pow (n:=32) hn (two_pow_lt h)
theorem and_top {n m:Nat} (hn:n<4294967296):n &&& m<4294967296:=Nat.lt_of_le_of_lt Nat.and_le_left hn
theorem bit_or (n l k:Nat):(n ||| 2^l).testBit k=(n.testBit k || decide (l=k)):=by rw [Nat.testBit_or,Nat.testBit_two_pow]
theorem bit_cut {n l k:Nat} (hl:l<32) (hk:k<32):(n &&& (4294967295-2^l)).testBit k=(n.testBit k && !decide (l=k)):=by
 have h1:4294967295-2^l=2^32-(2^l+1):=by omega
 rw [Nat.testBit_and,h1,Nat.testBit_two_pow_sub_succ (two_pow_lt hl),Nat.testBit_two_pow];simp [hk]
theorem Rep.push {R n fr bk ah af lv} (h:Rep R n fr bk ah af lv) {t l:Nat} (ht:t<64) (hl:l<32) (hno:∀ k,t ∉ R k) {fr' ah' af1:List Int}
  (h1:R l=[]→fr'=fr.set l t∧ah'=ah.set t (-1)∧af1=af)
  (h2:R l≠[]→fr'=fr∧ah'=ah.set t (lst (-1) (R l))∧af1=af.set (lst (-1) (R l)).toNat t) :
  Rep (up R l (R l++[t])) (n ||| 2^l) fr' (bk.set l t) ah' (af1.set t (-1)) (lv.set t (l+1)):=by
 have mem:∀ {k x},x∈up R l (R l++[t]) k→(x=t∧k=l)∨(x≠t∧x∈R k):=by
  intro k x hx
  by_cases e:k=l
  ·subst e;rw [up_same,List.mem_append,List.mem_singleton] at hx
   by_cases e2:x=t
   ·exact .inl ⟨e2,rfl⟩
   ·exact .inr ⟨e2,hx.resolve_right e2⟩
  ·rw [up_other _ _ e] at hx;exact .inr ⟨by rintro rfl;exact hno k hx,hx⟩
 have hnd:(R l++[t]).Nodup:=by
  rw [List.nodup_append];exact ⟨h.nd l,by simp,fun a ha b hb=>by rw [List.mem_singleton] at hb;subst hb;rintro rfl;exact hno l ha⟩
 have lfr':fr'.length=32∧ah'.length=64∧af1.length=64:=by
  by_cases e:R l=[]
  ·obtain ⟨rfl,rfl,rfl⟩:=h1 e;simp [h.lfr,h.lah,h.laf]
  ·obtain ⟨rfl,rfl,rfl⟩:=h2 e;simp [h.lfr,h.lah,h.laf]
 refine ⟨lfr'.1,by simp [h.lbk],lfr'.2.1,by simp [lfr'.2.2],by simp [h.llv],?_,?_,?_,?_,?_,or_top h.top hl,?_,?_,?_,?_,?_,?_⟩
 ·intro k x hx
  rcases mem hx with ⟨rfl,_⟩ | ⟨_,hx⟩
  ·exact ht
  ·exact h.rng hx
 ·intro k x hx
  rcases mem hx with ⟨_,rfl⟩ | ⟨_,hx⟩
  ·exact hl
  ·exact h.out hx
 ·intro k
  by_cases e:k=l
  ·subst e;rw [up_same];exact hnd
  ·rw [up_other _ _ e];exact h.nd k
 ·intro k k' x hx hx'
  rcases mem hx with ⟨rfl,rfl⟩ | ⟨hne,hx⟩<;>rcases mem hx' with ⟨e,e'⟩ | ⟨hne',hx'⟩
  ·exact e'.symm
  ·exact absurd rfl hne'
  ·exact absurd e hne
  ·exact h.one hx hx'
 ·intro k hk;rw [bit_or,h.bit hk]
  by_cases e:l=k
  ·subst e;simp [up_same]
  ·rw [up_other _ _ (Ne.symm e)];simp [e]
 ·intro k hk
  by_cases e:k=l
  ·subst e;rw [up_same,fst_append]
   by_cases e2:R k=[]
   ·obtain ⟨rfl,_,_⟩:=h1 e2;rw [if_pos e2,ag_set (by rw [h.lfr];exact hl),if_pos rfl]
   ·obtain ⟨rfl,_,_⟩:=h2 e2;rw [if_neg e2];exact h.hfr e2
  ·rw [up_other _ _ e] at hk ⊢
   by_cases e2:R l=[]
   ·obtain ⟨rfl,_,_⟩:=h1 e2;rw [ag_set (by rw [h.lfr];exact hl),if_neg (Ne.symm e)];exact h.hfr hk
   ·obtain ⟨rfl,_,_⟩:=h2 e2;exact h.hfr hk
 ·intro k hk;rw [ag_set (by rw [h.lbk];exact hl)]
  by_cases e:k=l
  ·subst e;rw [up_same,if_pos rfl,lst_append]
  ·rw [up_other _ _ e] at hk ⊢;rw [if_neg (Ne.symm e)];exact h.hbk hk
 ·intro k x hx
  rcases mem hx with ⟨rfl,rfl⟩ | ⟨hne,hy⟩
  ·rw [up_same,prv_last (hno k)]
   by_cases e2:R k=[]
   ·obtain ⟨_,rfl,_⟩:=h1 e2;rw [ag_set (by rw [h.lah];exact ht),if_pos rfl,e2];rfl
   ·obtain ⟨_,rfl,_⟩:=h2 e2;rw [ag_set (by rw [h.lah];exact ht),if_pos rfl]
  ·have e3:ag ah' x=ag ah x:=by
    by_cases e2:R l=[]
    ·obtain ⟨_,rfl,_⟩:=h1 e2;rw [ag_set (by rw [h.lah];exact ht),if_neg (Ne.symm hne)]
    ·obtain ⟨_,rfl,_⟩:=h2 e2;rw [ag_set (by rw [h.lah];exact ht),if_neg (Ne.symm hne)]
   rw [e3,h.hah hy]
   by_cases e:k=l
   ·subst e;rw [up_same,prv_append hy]
   ·rw [up_other _ _ e]
 ·intro k x hx;rw [ag_set (by rw [lfr'.2.2];exact ht)]
  rcases mem hx with ⟨rfl,rfl⟩ | ⟨hne,hy⟩
  ·rw [if_pos rfl,up_same,nxt_last (hno k)]
  ·rw [if_neg (Ne.symm hne)]
   by_cases e:k=l
   ·subst e;have e2:R k≠[]:=by intro e;rw [e] at hy;cases hy
    obtain ⟨_,_,rfl⟩:=h2 e2;rw [up_same,nxt_append hy hnd]
    rcases lst_or (-1) (R k) with ⟨e4,_⟩ | ⟨m,hm,em⟩
    ·exact absurd e4 e2
    ·rw [em,Int.toNat_natCast,ag_set (by rw [h.laf];exact h.rng hm)]
     by_cases e5:m=x
     ·rw [if_pos e5,if_pos (by omega)]
     ·rw [if_neg e5,if_neg (by omega)];exact h.haf hy
   ·rw [up_other _ _ e,← h.haf hy]
    by_cases e2:R l=[]
    ·obtain ⟨_,_,rfl⟩:=h1 e2;rfl
    ·obtain ⟨_,_,rfl⟩:=h2 e2
     rcases lst_or (-1) (R l) with ⟨e4,_⟩ | ⟨m,hm,em⟩
     ·exact absurd e4 e2
     ·rw [em,Int.toNat_natCast,ag_set (by rw [h.laf];exact h.rng hm),if_neg];rintro rfl;exact e (h.one hy hm)
 ·intro k x hx;rw [ag_set (by rw [h.llv];exact ht)]
  rcases mem hx with ⟨rfl,rfl⟩ | ⟨hne,hy⟩
  ·rw [if_pos rfl]
  ·rw [if_neg (Ne.symm hne)];exact h.hlv hy
 ·intro x hx hno';have hxt:x≠t:=by rintro rfl;exact hno' l (by rw [up_same];simp)
  rw [ag_set (by rw [h.llv];exact ht),if_neg (Ne.symm hxt)];refine h.hlv0 hx fun k hk=>hno' k ?_
  by_cases e:k=l
  ·subst e;rw [up_same];exact List.mem_append_left _ hk
  ·rw [up_other _ _ e];exact hk
theorem fst_or (v:List Nat):(v=[]∧fst v=-1)∨∃ m∈v,fst v=(m:Int):=by
 cases v with
 | nil=>exact .inl ⟨rfl,rfl⟩
 | cons b v=>exact .inr ⟨b,by simp,rfl⟩
theorem Rep.cut {R n fr bk ah af lv} (h:Rep R n fr bk ah af lv) {t l:Nat} {u v:List Nat} (hr:R l=u++t::v) {fr' bk' ah' af':List Int} {n':Nat}
  (h1:u=[]→fr'=fr.set l (fst v)∧af'=af) (h2:u≠[]→fr'=fr∧af'=af.set (lst (-1) u).toNat (fst v))
  (h3:v=[]→bk'=bk.set l (lst (-1) u)∧ah'=ah) (h4:v≠[]→bk'=bk∧ah'=ah.set (fst v).toNat (lst (-1) u))
  (h5:u=[]∧v=[]→n'=n &&& (4294967295-2^l)) (h6:¬ (u=[]∧v=[])→n'=n) :
  Rep (up R l (u++v)) n' fr' bk' ah' af' (lv.set t 0):=by
 have htl:t∈R l:=by rw [hr];simp
 have ht:=h.rng htl;have hl:=h.out htl;have hnd:=h.nd l;rw [hr] at hnd;have hnd':(u++v).Nodup:=by
  rw [List.nodup_append] at hnd ⊢;exact ⟨hnd.1,(List.nodup_cons.1 hnd.2.1).2,fun a ha b hb=>hnd.2.2 a ha b (List.mem_cons_of_mem _ hb)⟩
 have htu:t ∉ u:=by
  rw [List.nodup_append] at hnd;intro hu;exact hnd.2.2 t hu t (by simp) rfl
 have htv:t ∉ v:=by
  rw [List.nodup_append] at hnd;exact (List.nodup_cons.1 hnd.2.1).1
 have mem:∀ {k x},x∈up R l (u++v) k→x≠t∧x∈R k:=by
  intro k x hx
  by_cases e:k=l
  ·subst e;rw [up_same] at hx;refine ⟨?_,?_⟩
   ·rintro rfl
    rcases List.mem_append.1 hx with hx | hx
    ·exact htu hx
    ·exact htv hx
   ·rw [hr]
    rcases List.mem_append.1 hx with hx | hx
    ·exact List.mem_append_left _ hx
    ·exact List.mem_append_right _ (List.mem_cons_of_mem _ hx)
  ·rw [up_other _ _ e] at hx;exact ⟨by rintro rfl;exact e (h.one hx htl),hx⟩
 have ufacts:u=[]∨∃ m∈u,lst (-1) u=(m:Int):=by
  rcases lst_or (-1) u with ⟨e,_⟩ | e
  ·exact .inl e
  ·exact .inr e
 have vfacts:v=[]∨∃ m∈v,fst v=(m:Int):=by
  rcases fst_or v with ⟨e,_⟩ | e
  ·exact .inl e
  ·exact .inr e
 have lens:fr'.length=32∧af'.length=64∧bk'.length=32∧ah'.length=64:=by
  refine ⟨?_,?_,?_,?_⟩
  ·by_cases e:u=[]
   ·rw [(h1 e).1];simp [h.lfr]
   ·rw [(h2 e).1];exact h.lfr
  ·by_cases e:u=[]
   ·rw [(h1 e).2];exact h.laf
   ·rw [(h2 e).2];simp [h.laf]
  ·by_cases e:v=[]
   ·rw [(h3 e).1];simp [h.lbk]
   ·rw [(h4 e).1];exact h.lbk
  ·by_cases e:v=[]
   ·rw [(h3 e).2];exact h.lah
   ·rw [(h4 e).2];simp [h.lah]
 refine ⟨lens.1,lens.2.2.1,lens.2.2.2,lens.2.1,by simp [h.llv],fun hx=>h.rng (mem hx).2,fun hx=>h.out (mem hx).2,?_,fun hx hx'=>h.one (mem hx).2 (mem hx').2,?_,?_,?_,?_,?_,?_,?_,?_⟩
 ·intro k
  by_cases e:k=l
  ·subst e;rw [up_same];exact hnd'
  ·rw [up_other _ _ e];exact h.nd k
 ·intro k hk
  by_cases e0:u=[]∧v=[]
  ·rw [h5 e0,bit_cut hl hk,h.bit hk]
   by_cases e:l=k
   ·subst e;simp [up_same,e0.1,e0.2]
   ·rw [up_other _ _ (Ne.symm e)];simp [e]
  ·rw [h6 e0,h.bit hk]
   by_cases e:k=l
   ·subst e;rw [up_same,hr];simp only [ne_eq,List.append_eq_nil_iff];simp [e0]
   ·rw [up_other _ _ e]
 ·by_cases e0:u=[]∧v=[]
  ·rw [h5 e0];exact and_top h.top
  ·rw [h6 e0];exact h.top
 ·intro k hk
  by_cases e:k=l
  ·subst e;rw [up_same] at hk ⊢
   by_cases eu:u=[]
   ·rw [(h1 eu).1,ag_set (by rw [h.lfr];exact hl),if_pos rfl,eu];rfl
   ·rw [(h2 eu).1,h.hfr (by rw [hr];simp),hr]
    cases u with
    | nil=>exact absurd rfl eu
    | cons a u=>rfl
  ·rw [up_other _ _ e] at hk ⊢
   by_cases eu:u=[]
   ·rw [(h1 eu).1,ag_set (by rw [h.lfr];exact hl),if_neg (Ne.symm e)];exact h.hfr hk
   ·rw [(h2 eu).1];exact h.hfr hk
 ·intro k hk
  by_cases e:k=l
  ·subst e;rw [up_same] at hk ⊢
   by_cases ev:v=[]
   ·rw [(h3 ev).1,ag_set (by rw [h.lbk];exact hl),if_pos rfl,ev,List.append_nil]
   ·rw [(h4 ev).1,h.hbk (by rw [hr];simp),hr,lst_cons];obtain ⟨a,v',rfl⟩:=List.exists_cons_of_ne_nil ev;rw [lst_cons];rfl
  ·rw [up_other _ _ e] at hk ⊢
   by_cases ev:v=[]
   ·rw [(h3 ev).1,ag_set (by rw [h.lbk];exact hl),if_neg (Ne.symm e)];exact h.hbk hk
   ·rw [(h4 ev).1];exact h.hbk hk
 ·intro k x hx;obtain ⟨hne,hx'⟩:=mem hx
  by_cases e:k=l
  ·subst e;rw [up_same] at hx ⊢;rw [prv_cut hx hnd]
   by_cases ev:v=[]
   ·rw [(h3 ev).2,if_neg (by rw [ev];show ¬ (-1:Int)=_;omega),h.hah hx',hr]
   ·rw [(h4 ev).2]
    rcases vfacts with e | ⟨m,hm,em⟩
    ·exact absurd e ev
    ·have hm64:m<64:=h.rng (l:=k) (by rw [hr];exact List.mem_append_right _ (List.mem_cons_of_mem _ hm));rw [em,Int.toNat_natCast,ag_set (by rw [h.lah];exact hm64)]
     by_cases e5:m=x
     ·rw [if_pos e5,if_pos (by omega)]
     ·rw [if_neg e5,if_neg (by omega),h.hah hx',hr]
  ·rw [up_other _ _ e];rw [← h.hah hx']
   by_cases ev:v=[]
   ·rw [(h3 ev).2]
   ·rw [(h4 ev).2]
    rcases vfacts with e6 | ⟨m,hm,em⟩
    ·exact absurd e6 ev
    ·have hml:m∈R l:=by rw [hr];exact List.mem_append_right _ (List.mem_cons_of_mem _ hm)
     rw [em,Int.toNat_natCast,ag_set (by rw [h.lah];exact h.rng hml),if_neg];rintro rfl;exact e (h.one hx' hml)
 ·intro k x hx;obtain ⟨hne,hx'⟩:=mem hx
  by_cases e:k=l
  ·subst e;rw [up_same] at hx ⊢;rw [nxt_cut hx hnd]
   by_cases eu:u=[]
   ·rw [(h1 eu).2,if_neg (by rw [eu];show ¬ (-1:Int)=_;omega),h.haf hx',hr]
   ·rw [(h2 eu).2]
    rcases ufacts with e | ⟨m,hm,em⟩
    ·exact absurd e eu
    ·have hm64:m<64:=h.rng (l:=k) (by rw [hr];exact List.mem_append_left _ hm);rw [em,Int.toNat_natCast,ag_set (by rw [h.laf];exact hm64)]
     by_cases e5:m=x
     ·rw [if_pos e5,if_pos (by omega)]
     ·rw [if_neg e5,if_neg (by omega),h.haf hx',hr]
  ·rw [up_other _ _ e];rw [← h.haf hx']
   by_cases eu:u=[]
   ·rw [(h1 eu).2]
   ·rw [(h2 eu).2]
    rcases ufacts with e6 | ⟨m,hm,em⟩
    ·exact absurd e6 eu
    ·have hml:m∈R l:=by rw [hr];exact List.mem_append_left _ hm
     rw [em,Int.toNat_natCast,ag_set (by rw [h.laf];exact h.rng hml),if_neg];rintro rfl;exact e (h.one hx' hml)
 ·intro k x hx;obtain ⟨hne,hx'⟩:=mem hx;rw [ag_set (by rw [h.llv];exact ht),if_neg (Ne.symm hne)];exact h.hlv hx'
 ·intro x hx hno';rw [ag_set (by rw [h.llv];exact ht)]
  by_cases e:t=x
  ·rw [if_pos e]
  ·rw [if_neg e];refine h.hlv0 hx fun k hk=>hno' k ?_
   by_cases e2:k=l
   ·subst e2;rw [up_same];rw [hr] at hk
    rcases List.mem_append.1 hk with hk | hk
    ·exact List.mem_append_left _ hk
    ·exact List.mem_append_right _ ((List.mem_cons.1 hk).resolve_left (Ne.symm e))
   ·rw [up_other _ _ e2];exact hk
theorem Rep.none:Rep (fun _=>[]) 0 (List.replicate 32 0) (List.replicate 32 0) (List.replicate 64 0) (List.replicate 64 0) (List.replicate 64 0):=by
 refine ⟨by simp,by simp,by simp,by simp,by simp,fun h=>(by cases h),fun h=>(by cases h),fun _=>List.nodup_nil,fun h=>(by cases h),fun _=>by simp,by decide,fun h=>absurd rfl h,fun h=>absurd rfl h,fun h=>(by cases h),fun h=>(by cases h),fun h=>(by cases h),fun {t} ht _=>?_⟩;show (List.replicate 64 (0:Int)).getD t 0=0;rw [List.getD_eq_getElem?_getD,List.getElem?_replicate,if_pos ht];rfl
def lvOf (R:Nat→List Nat) (t:Nat):Option Nat:=(List.range 32).find? fun l=>decide (t∈R l)
def putR (R:Nat→List Nat) (t l:Nat):Nat→List Nat:=if lvOf R t=none∧t<64∧l<32 then up R l (R l++[t]) else R
def remR (R:Nat→List Nat) (t:Nat):Nat→List Nat:=match lvOf R t with
 | none=>R
 | some l=>up R l ((R l).erase t)
def turnR (R:Nat→List Nat) (t:Nat):Nat→List Nat:=match lvOf R t with
 | none=>R
 | some l=>up R l ((R l).erase t++[t])
def moveR (R:Nat→List Nat) (t l:Nat):Nat→List Nat:=match lvOf R t with
 | none=>R
 | some k=>if k=l∨¬ l<32 then R else up (up R k ((R k).erase t)) l (R l++[t])
def firstR (R:Nat→List Nat):Option Nat:=match (List.range 32).find? fun l=>decide (R l≠[]) with
 | none=>none
 | some l=>(R l).head?
def low (n:Nat):Nat:=((List.range 32).find? fun i=>n.testBit i).getD 32
theorem find_range {p:Nat→Bool} {l:Nat}:∀ {n:Nat} (_:l<n) (_:p l=true) (_:∀ k,k<l→p k=false),(List.range n).find? p=some l
 | 0,h,_,_=>absurd h (by omega)
 | n+1,h,hp,hb=>by
  rw [List.range_succ,List.find?_append]
  by_cases e:l=n
  ·subst e;have:(List.range l).find? p=none:=by rw [List.find?_eq_none];intro x hx;rw [hb x (List.mem_range.1 hx)];simp
   rw [this];simp [hp]
  ·rw [find_range (n:=n) (by omega) hp hb];rfl
theorem find_range_none {p:Nat→Bool} {n:Nat} (h:∀ k,k<n→p k=false):(List.range n).find? p=none:=by
 rw [List.find?_eq_none];intro x hx;rw [h x (List.mem_range.1 hx)];simp
theorem find_range_some {p:Nat→Bool} {n l:Nat} (h:(List.range n).find? p=some l):l<n∧p l=true∧∀ k,k<l→p k=false:=by
 induction n with
 | zero=>simp at h
 | succ n ih =>
  rw [List.range_succ,List.find?_append] at h
  cases e:(List.range n).find? p with
  | some k =>
   rw [e] at h;simp at h;subst h;obtain ⟨h1,h2,h3⟩:=ih e;exact ⟨by omega,h2,h3⟩
  | none =>
   rw [e] at h
   by_cases hp:p n=true
   ·simp [hp] at h;subst h;rw [List.find?_eq_none] at e;exact ⟨by omega,hp,fun k hk=>by have:=e k (List.mem_range.2 hk);simpa using this⟩
   ·simp [hp] at h
section
variable {R:Nat→List Nat} {n:Nat} {fr bk ah af lv:List Int}
theorem lvOf_mem {t l:Nat} (h:lvOf R t=some l):t∈R l∧l<32:=by
 obtain ⟨h1,h2,_⟩:=find_range_some h;exact ⟨of_decide_eq_true h2,h1⟩
end
structure RdOk (R:Nat→List Nat):Prop where
 rng:∀ {l t},t∈R l→t<64
 out:∀ {l t},t∈R l→l<32
 nd:∀ l,(R l).Nodup
 one:∀ {l l' t},t∈R l→t∈R l'→l=l'
theorem Rep.ok {R n fr bk ah af lv} (h:Rep R n fr bk ah af lv):RdOk R:=⟨h.rng,h.out,h.nd,h.one⟩
theorem RdOk.none:RdOk fun _=>[]:=⟨fun h=>(by cases h),fun h=>(by cases h),fun _=>List.nodup_nil,fun h=>(by cases h)⟩
section
variable {R:Nat→List Nat}
theorem up_mem {l k:Nat} {q:List Nat} {x:Nat}:x∈up R l q k↔(k=l∧x∈q)∨(k≠l∧x∈R k):=by
 unfold up;split
 ·rename_i h;simp [h]
 ·rename_i h;simp [h]
theorem lvOf_nil {t:Nat} (h:RdOk R) (hn:lvOf R t=.none) (l:Nat):t ∉ R l:=fun hx=>by
 have:lvOf R t=some l:=find_range (h.out hx) (decide_eq_true hx) fun k hk=>decide_eq_false fun hy=>by have:=h.one hx hy;omega
 rw [this] at hn;cases hn
theorem RdOk.up_add (h:RdOk R) {t l:Nat} (ht:t<64) (hl:l<32) (hno:∀ k,t ∉ R k):RdOk (up R l (R l++[t])):=by
 have mem:∀ {k x},x∈up R l (R l++[t]) k→(x=t∧k=l)∨(x≠t∧x∈R k):=by
  intro k x hx
  rcases up_mem.1 hx with ⟨rfl,hx⟩ | ⟨_,hy⟩
  ·rw [List.mem_append,List.mem_singleton] at hx
   by_cases e:x=t
   ·exact .inl ⟨e,rfl⟩
   ·exact .inr ⟨e,hx.resolve_right e⟩
  ·exact .inr ⟨fun e=>hno k (e ▸ hy),hy⟩
 refine ⟨fun hx=>?_,fun hx=>?_,fun k=>?_,fun hx hy=>?_⟩
 ·rcases mem hx with ⟨rfl,_⟩ | ⟨_,hx⟩
  ·exact ht
  ·exact h.rng hx
 ·rcases mem hx with ⟨_,rfl⟩ | ⟨_,hx⟩
  ·exact hl
  ·exact h.out hx
 ·by_cases e:k=l
  ·subst e;rw [up_same,List.nodup_append];exact ⟨h.nd k,by simp,fun a ha b hb=>by rw [List.mem_singleton] at hb;subst hb;rintro rfl;exact hno k ha⟩
  ·rw [up_other _ _ e];exact h.nd k
 ·rcases mem hx with ⟨rfl,e1⟩ | ⟨n1,hx⟩<;>rcases mem hy with ⟨e2,e3⟩ | ⟨n2,hy⟩
  ·omega
  ·exact absurd rfl n2
  ·exact absurd e2 n1
  ·exact h.one hx hy
theorem RdOk.up_cut (h:RdOk R) (t l:Nat):RdOk (up R l ((R l).erase t)):=by
 have mem:∀ {k x},x∈up R l ((R l).erase t) k→x∈R k:=by
  intro k x hx
  rcases up_mem.1 hx with ⟨rfl,hx⟩ | ⟨_,hx⟩
  ·exact List.mem_of_mem_erase hx
  ·exact hx
 refine ⟨fun hx=>h.rng (mem hx),fun hx=>h.out (mem hx),fun k=>?_,fun hx hy=>h.one (mem hx) (mem hy)⟩
 by_cases e:k=l
 ·subst e;rw [up_same];exact (h.nd k).erase t
 ·rw [up_other _ _ e];exact h.nd k
theorem up_cut_not (h:RdOk R) {t l:Nat} (ht:t∈R l) (k:Nat):t ∉ up R l ((R l).erase t) k:=fun hx=>by
 rcases up_mem.1 hx with ⟨rfl,hx⟩ | ⟨e,hx⟩
 ·exact (List.Nodup.not_mem_erase (h.nd k)) hx
 ·exact e (h.one hx ht)
theorem RdOk.put (h:RdOk R) (t l:Nat):RdOk (putR R t l):=by
 unfold putR;split
 ·rename_i e;exact h.up_add e.2.1 e.2.2 (lvOf_nil h e.1)
 ·exact h
theorem turnR_none {t:Nat} (e:lvOf R t=.none):turnR R t=R:=by unfold turnR;rw [e]
theorem turnR_some {t l:Nat} (e:lvOf R t=some l):turnR R t=up R l ((R l).erase t++[t]):=by unfold turnR;rw [e]
theorem moveR_none {t l:Nat} (e:lvOf R t=.none):moveR R t l=R:=by unfold moveR;rw [e]
theorem moveR_some {t l k:Nat} (e:lvOf R t=some k):moveR R t l=if k=l∨¬ l<32 then R else up (up R k ((R k).erase t)) l (R l++[t]):=by unfold moveR;rw [e]
theorem RdOk.turn (h:RdOk R) (t:Nat):RdOk (turnR R t):=by
 cases e:lvOf R t with
 | none=>rw [turnR_none e];exact h
 | some l =>
  rw [turnR_some e];have hm:=lvOf_mem e;have h2:=(h.up_cut t l).up_add (t:=t) (l:=l) (h.rng hm.1) hm.2 (up_cut_not h hm.1);have e2:up (up R l ((R l).erase t)) l (up R l ((R l).erase t) l++[t])=up R l ((R l).erase t++[t]):=by
   funext k;unfold up;split<;>simp
  rw [e2] at h2;exact h2
theorem RdOk.move (h:RdOk R) (t l:Nat):RdOk (moveR R t l):=by
 cases e:lvOf R t with
 | none=>rw [moveR_none e];exact h
 | some k =>
  rw [moveR_some e]
  split
  ·exact h
  ·rename_i hn
   have hm:=lvOf_mem e;have h2:=(h.up_cut t k).up_add (t:=t) (l:=l) (h.rng hm.1) (by omega) (up_cut_not h hm.1);rw [up_other (k:=l) _ _ (by omega)] at h2;exact h2
end
end Go.Rq
namespace Go.Proofs.YtkeommmigopnkaaGreatDoor
open Go.RowKit Go.Sx
theorem elemI:ElemT Tryz.prog 24 3 1 8 (.int .i64 0):=⟨by kernel_rfl,by kernel_rfl,rfl⟩
def idx (l:List Int) (t:Int):Int:=if t∈l then (l.idxOf t:Int) else -1
def RowOk (l:List Int):Prop:=l.Nodup∧∀ t∈l,0≤t∧t<64
def addOk (l:List Int) (t:Int):Prop:=0≤t∧t<64∧t ∉ l
instance (l:List Int) (t:Int):Decidable (addOk l t):=by unfold addOk;infer_instance
def lvAt (lv:List Int) (t:Int):Int:=lv.getD t.toNat 0
def bestStep (lv:List Int) (best t:Int):Int:=if t<lv.length∧((lv.length:Int)≤best∨lvAt lv t<lvAt lv best) then t else best
def bestOf (lv:List Int):List Int→Int
 | []=>0
 | t::r=>r.foldl (bestStep lv) t
def addOne (l:List Int) (t:Int):List Int:=if addOk l t then l++[t] else l
structure SemOk (u:Int) (l:List Int):Prop where
 lo:0≤u
 hi:u≤255
 row:RowOk l
 rest:0<u→l=[]
def addE (l:List Int) (t:Int):Int:=if addOk l t then 0 else 1
def takeE (u:Int):Int:=if u=0 then 8 else 0
def takeU (u:Int):Int:=if u=0 then u else u-1
def awaitL (u:Int) (l:List Int) (t:Int):List Int:=if 0<u then l else addOne l t
def postE (u:Int) (l:List Int):Int:=if l≠[] then 0 else if u=255 then 7 else 0
def postU (u:Int) (l:List Int):Int:=if l≠[] then u else if u=255 then u else u+1
def postL (lv l:List Int):List Int:=if l≠[] then l.erase (bestOf lv l) else l
end Go.Proofs.YtkeommmigopnkaaGreatDoor
namespace Go.Proofs.YtkeommmigopnkaaGreatDoor
open Go.RowKit Go.Sx Go.Rq
instance (priority:=500) {α:Type} (k i:Nat) (l:List α) (v:α) [h:Lt k l.length]:Lt k (l.set i v).length:=⟨by rw [List.length_set];exact h.lt⟩
instance (priority:=1300) (b o k:Nat) (l:List Int) [h:Lt k l.length]:Cell (pts b o (l.map (Value.int .i8))) b (o+k) (.int .i8 (ag l k)):=Cell.num .i8 b o k l
end Go.Proofs.YtkeommmigopnkaaGreatDoor
namespace Go.Sx
open Go.RowKit
def wpEarly (P:Program) (ops:Array Oper) (Q:Exit→Act→World→Prop) (S:World→Prop):List (Nat×Bool)→Act→World→Prop
 | [],a,w=>Q .normal a w
 | (i,true)::rest,a,w=>∃ o v,ops[i]?=some o∧YieldsIf P ops S o v a∧wpEarly P ops Q S rest (a.put o.dst v) w
 | (i,false)::rest,a,w=>wpOp P ops Q i (fun a' w'=>S w'∧wpEarly P ops Q S rest a' w') a w
def earlyB (md:Region.Mode) (ops:Array Oper):List (Nat×Bool)→Array Bool→Bool
 | [],listed=>(Region.ready md ops listed).isEmpty
 | (i,true)::rest,listed=>(Region.ready md ops listed).contains i && Region.free md ops listed i && earlyB md ops rest (listed.setIfInBounds i true)
 | (i,false)::rest,listed=>(Region.ready md ops listed==[i]) && earlyB md ops rest (listed.setIfInBounds i true)
def planB (ops:Array Oper) (plan:List (Nat×Bool)):Bool :=
 Region.noSelect ops && (plan.length==ops.size) && earlyB .any ops plan (Array.replicate ops.size false)
section
variable {P:Program} {ops:Array Oper} {Q:Exit→Act→World→Prop} {md:Region.Mode} {S:World→Prop}
theorem wpAnyH_of_early (hs:Region.noSelect ops=true) (hQ:∀ (t:Array Value) c (a:Act) w,Q (.panic c) { a with tmps:=t } w→Q (.panic c) a w) :
  ∀ (plan:List (Nat×Bool)) (listed:Array Bool) (a:Act) (w:World),earlyB md ops plan listed=true→S w→wpEarly P ops Q S plan a w→wpAnyH P md ops Q S plan.length listed a w
 | [],_,_,_,hB,_,h=>wpAnyH_done (by simpa [earlyB] using hB) h _
 | (i,true)::rest,listed,a,w,hB,hS,h=>by
  simp only [earlyB,Bool.and_eq_true] at hB;obtain ⟨⟨hr,hf⟩,hB'⟩:=hB;obtain ⟨o,v,ho,hy,h'⟩:=h;exact wpAnyH_take ho hs hf hr (fun c a w hq=>by
   cases hd:o.dst with
   | none=>rw [hd] at hq;exact hq
   | some d=>rw [hd] at hq;exact hQ _ c a w hq) hy hS (wpAnyH_of_early hs hQ rest _ _ _ hB' hS h')
 | (i,false)::rest,listed,a,w,hB,hS,h=>by
  simp only [earlyB,Bool.and_eq_true,beq_iff_eq] at hB;obtain ⟨hr,hB'⟩:=hB;refine wpAnyH_all hr (by simp) fun j hj=>?_;have:j=i:=by simpa using hj
  subst this;exact wpOp_mono (fun a' w' h'=>⟨h'.1,wpAnyH_of_early hs hQ rest _ _ _ hB' h'.1 h'.2⟩) h
theorem wp_region_early {id:Nat} {a:Act} {w:World} (S:World→Prop) (plan:List (Nat×Bool)) (hm:P.follows .mixedOrders=true) (hB:planB ops plan=true)
  (hQ:∀ (t:Array Value) c (a:Act) w,Q (.panic c) { a with tmps:=t } w→Q (.panic c) a w) (hS:S w.drew) (h:wpEarly P ops Q S plan a w.drew):(Code.region id ops true).wp P Q a w:=by
 simp only [planB,Bool.and_eq_true,beq_iff_eq] at hB;obtain ⟨⟨h1,h2⟩,h3⟩:=hB;refine wp_region_held (S:=S) hm ?_;rw [← h2];rw [← h2] at h3;exact wpAnyH_of_early h1 hQ plan _ a w.drew h3 hS h
theorem early_done {a:Act} {w:World} (h:Q .normal a w):wpEarly P ops Q S [] a w:=h
section
variable {l:List Oper} {i:Nat} {rest:List (Nat×Bool)} {a:Act} {w:World}
theorem early_read (h:∀ K:Act→Prop,(∀ a,wpEarly P l.toArray Q S rest a w→K a)→match l[i]? with
  | none=>False
  | some o=>if Region.wanted o (yielded l.toArray a.tmps)=true then ∃ v,(∀ w,S w→(execOp a.eval o).run P w=.ok (.value v) w)∧K (a.put o.dst v) else K (a.put o.dst undef)) :
  wpEarly P l.toArray Q S ((i,true)::rest) a w:=by
 have h:=h _ fun _ h=>h
 cases ho:l[i]? with
 | none=>rw [ho] at h;exact h.elim
 | some o =>
  rw [ho] at h;have h:if Region.wanted o (yielded l.toArray a.tmps)=true then _ else _:=h
  by_cases hw:Region.wanted o (yielded l.toArray a.tmps)=true
  ·rw [if_pos hw] at h;obtain ⟨v,h1,h2⟩:=h;exact ⟨o,v,by simpa using ho,.inl ⟨hw,h1⟩,h2⟩
  ·rw [if_neg hw] at h;exact ⟨o,undef,by simpa using ho,.inr ⟨by simpa using hw,rfl⟩,h⟩
theorem early_run (h:∀ K:Act→World→Prop,(∀ a w,S w∧wpEarly P l.toArray Q S rest a w→K a w)→match l[i]? with
  | none=>False
  | some o=>if Region.wanted o (yielded l.toArray a.tmps)=true then o.wp P a w K Q else K (a.put o.dst undef) w) :
  wpEarly P l.toArray Q S ((i,false)::rest) a w:=by
 have h:=h _ fun _ _ h=>h;show wpOp P l.toArray Q i _ a w;unfold wpOp;have e:l.toArray[i]?=l[i]?:=by simp
 rw [e]
 cases ho:l[i]? with
 | none=>rw [ho] at h;exact h.elim
 | some o =>
  rw [ho] at h;have h:if Region.wanted o (yielded l.toArray a.tmps)=true then _ else _:=h;show if Region.wanted o (yielded l.toArray a.tmps)=true then _ else _
  by_cases hw:Region.wanted o (yielded l.toArray a.tmps)=true
  ·rw [if_pos hw] at h ⊢;exact .inl h
  ·rw [if_neg hw] at h ⊢;exact h
theorem early_T {o:Oper} (ho:l[i]?=some o) (hw:Region.wanted o (yielded l.toArray a.tmps)=true) (h:∃ v,(∀ w,S w→(execOp a.eval o).run P w=.ok (.value v) w)∧wpEarly P l.toArray Q S rest (a.put o.dst v) w):wpEarly P l.toArray Q S ((i,true)::rest) a w :=
 early_read fun K hK=>by rw [ho];dsimp only;rw [if_pos hw];obtain ⟨v,hv,hk⟩:=h;exact ⟨v,hv,hK _ hk⟩
theorem early_F {o:Oper} (ho:l[i]?=some o) (hw:Region.wanted o (yielded l.toArray a.tmps)=false) (hk:wpEarly P l.toArray Q S rest (a.put o.dst undef) w):wpEarly P l.toArray Q S ((i,true)::rest) a w :=
 early_read fun K hK=>by rw [ho];dsimp only;rw [if_neg (ne_true_of_eq_false hw)];exact hK _ hk
theorem early_S {o:Oper} {v:Value} {a':Act} (h:wpEarly P l.toArray Q S rest a' w) (ho:l[i]?=some o:=by rfl) (hw:Region.wanted o (yielded l.toArray a.tmps)=true:=by rfl)
  (hx:∀ w,S w→(execOp a.eval o).run P w=.ok (.value v) w:=by intro w hSw; (try dsimp only at hSw);go_simp;try with_reducible rfl) (ha:a.put o.dst v=a':=by simp only [Act.put,zqA,zqP,zqQ];rfl):wpEarly P l.toArray Q S ((i,true)::rest) a w :=
 early_T ho hw ⟨v,hx,by rw [ha];exact h⟩
theorem early_N {o:Oper} {a':Act} (h:wpEarly P l.toArray Q S rest a' w) (ho:l[i]?=some o:=by rfl) (hw:Region.wanted o (yielded l.toArray a.tmps)=false:=by rfl) (ha:a.put o.dst undef=a':=by simp only [Act.put,zqA,zqP,zqQ];rfl):wpEarly P l.toArray Q S ((i,true)::rest) a w :=
 early_F ho hw (by rw [ha];exact h)
theorem early_G {o:Oper} (ho:l[i]?=some o) (hw:Region.wanted o (yielded l.toArray a.tmps)=true) (h:∀ K:Act→World→Prop,(∀ a w,S w∧wpEarly P l.toArray Q S rest a w→K a w)→o.wp P a w K Q):wpEarly P l.toArray Q S ((i,false)::rest) a w :=
 early_run fun K hK=>by rw [ho];dsimp only;rw [if_pos hw];exact h K hK
end
end
end Go.Sx
namespace Go.Au
structure Ev where
 k:Int
 cy:Int
 co:Int
 a:Nat
 b:Nat
 v:Nat
structure Tk where
 st:Int
 late:Int
 on:Nat
 job:Nat
 lev:Int
structure Du where
 k:Int
 a:Nat
 b:Nat
deriving DecidableEq
structure Au where
 seen:Int
 last:Ev
 due:Du
 ts:List Tk
 ow:List Int
 pn:List Bool
 isr:Int
 run:Int
def tk0:Tk:=⟨0,0,0,0,0⟩
def ev0:Ev:=⟨0,0,0,0,0,0⟩
abbrev du0:Du:=⟨0,0,0⟩
def au0:Au:=⟨0,ev0,du0,List.replicate 64 tk0,List.replicate 32 0,List.replicate 16 false,0,0⟩
def win (n:Nat) (r:Nat):Bool :=
 match r with
 | 1=>true
 | 8=>decide (n<64∨n=255)
 | 9=>decide (n=0∨32≤n∧n<160)
 | 12=>decide (1≤n∧n≤255)
 | 2=>decide (n≤1)
 | 3=>decide (n≤15)
 | 4=>decide (n≤31)
 | 10=>decide (n≤31)
 | 5=>decide (n≤63)
 | 6=>decide (n≤79)
 | 7=>decide (n≤80)
 | 11=>decide (n≤255)
 | 13=>decide (n≤16)
 | 14=>decide (n≤38)
 | _=>decide (n≤0)
def shp (k:Nat):Nat×Nat×Nat :=
 match k with
 | 1=>(3,2,0)
 | 2=>(3,6,1)
 | 3=>(3,0,0)
 | 4=>(3,0,0)
 | 5=>(8,8,0)
 | 6=>(5,0,1)
 | 7=>(5,0,12)
 | 8=>(5,0,1)
 | 9=>(5,9,0)
 | 10=>(5,2,0)
 | 11=>(5,10,0)
 | 12=>(5,4,0)
 | 13=>(5,4,0)
 | 14=>(7,4,11)
 | 15=>(5,4,11)
 | 16=>(6,4,1)
 | 17=>(6,4,1)
 | 18=>(4,0,0)
 | 19=>(6,4,1)
 | 20=>(3,6,1)
 | 21=>(6,13,0)
 | 22=>(5,0,0)
 | 23=>(7,13,14)
 | _=>(0,0,0)
def okN (k a b v:Nat):Bool:=win a (shp k).1 && win b (shp k).2.1 && win v (shp k).2.2 && !(decide (k=5) && decide (a=b))
def okE (e:Ev):Bool:=decide (1≤e.k∧e.k≤24) && okN e.k.toNat e.a e.b e.v
def tkg (l:List Tk) (k:Nat):Tk:=l.getD k tk0
def owg (l:List Int) (k:Nat):Int:=l.getD k 0
def tkAt (A:Au) (x:Nat):Tk:=tkg A.ts x
def acts (A:Au) (x:Nat):Bool :=
 if x<64 then decide (A.isr=0) && decide (A.run=(x:Int)+1) && decide ((tkAt A x).st=1)
 else if x<80 then decide (A.isr=(x:Int)-63)
 else decide (A.last.k=18)
def isMu (y:Nat):Bool:=decide (32≤y∧y<64)
def owAt (A:Au) (y:Nat):Int:=owg A.ow y
def nobody (A:Au):Bool:=A.ts.all fun t=>decide (t.st≠1)
def rule (A:Au) (k a b v:Nat) (had:Bool):Bool :=
 match k with
 | 1=>A.pn.getD a false==decide (b=1)
 | 2=>acts A b
 | 20=>acts A b
 | 3=>decide (A.isr=0) && A.pn.getD a false
 | 4=>decide (A.isr=(a:Int)+1)
 | 5=>decide (A.isr=0) && decide (A.run=if b=255 then 0 else (b:Int)+1) && (if a=255 then nobody A else decide ((tkAt A a).st=1))
 | 6=>decide ((tkAt A a).st=0) && decide (v=((tkAt A a).job+1)%4294967296)
 | 7=>decide ((tkAt A a).st≠0∧(tkAt A a).st≠3) && decide ((v:Int)=min ((tkAt A a).late+1) 255)
 | 8=>acts A a && decide (v=(tkAt A a).job)
 | 9=>acts A a && (!isMu b || decide (owAt A (b-32)≠0) && decide (owAt A (b-32)≠(a:Int)+1))
 | 10=>decide ((tkAt A a).st=2) && (if (tkAt A a).on=0 then decide (b=0) else !isMu (tkAt A a).on || decide (b=1) && decide (owAt A ((tkAt A a).on-32)=0))
 | 11=>decide ((tkAt A a).lev≠(b:Int)+1)
 | 12=>decide (owAt A b=0) && (had || acts A a)
 | 13=>decide (owAt A b=(a:Int)+1) && (decide ((tkAt A a).st=3) || acts A a)
 | 14=>acts A a
 | 15=>acts A a
 | 19=>acts A a
 | 23=>acts A a
 | 16=>decide (a<64∧(tkAt A a).st=2∧(tkAt A a).on=96+b) || acts A a
 | 17=>decide (a<64∧(tkAt A a).st=2∧(tkAt A a).on=128+b) || acts A a
 | 21=>acts A a
 | 22=>acts A a
 | _=>true
def setT (A:Au) (x:Nat) (t:Tk):Au:={ A with ts:=A.ts.set x t }
def learn (A:Au) (k a b v:Nat):Au :=
 match k with
 | 1=>{ A with pn:=A.pn.set a true }
 | 3=>{ A with pn:=A.pn.set a false,isr:=(a:Int)+1 }
 | 4=>{ A with isr:=0 }
 | 5=>{ A with run:=if a=255 then 0 else (a:Int)+1 }
 | 6=>setT A a { tkAt A a with st:=1,job:=v,late:=max ((tkAt A a).late-1) 0 }
 | 7=>setT A a { tkAt A a with late:=v }
 | 8=>{ setT A a { tkAt A a with st:=0 } with due:=if (tkAt A a).late > 0 then ⟨6,a,0⟩ else A.due }
 | 9=>setT A a { tkAt A a with st:=2,on:=b }
 | 10=>{ setT A a { tkAt A a with st:=1 } with due:=if isMu (tkAt A a).on then ⟨12,a,(tkAt A a).on-32⟩ else A.due }
 | 11=>setT A a { tkAt A a with lev:=(b:Int)+1 }
 | 12=>{ A with ow:=A.ow.set b ((a:Int)+1) }
 | 13=>{ A with ow:=A.ow.set b 0 }
 | 21=>if a<64 then setT A a { tkAt A a with st:=3 } else { A with due:=⟨4,a-64,0⟩ }
 | 22=>setT A a { tkAt A a with st:=3 }
 | _=>A
def duOf (e:Ev):Du:=⟨e.k,e.a,e.b⟩
def inTime (A:Au) (e:Ev):Bool:=okE e && decide (A.last.k≠24) && decide (A.last.co≤e.co) && decide (A.last.cy≤e.cy) && (decide (A.due=du0) || decide (A.due=duOf e))
def keepsR (A:Au) (e:Ev):Bool:=inTime A e && rule { A with due:=du0 } e.k.toNat e.a e.b e.v (decide (A.due=duOf e))
def stepA (A:Au) (e:Ev):Au:={ learn { A with due:=du0 } e.k.toNat e.a e.b e.v with last:=e,seen:=A.seen+1 }
def nxt (A:Au) (e:Ev):Option Au:=if keepsR A e then some (stepA A e) else none
def chk (A:Au):List Ev→Option Nat
 | []=>none
 | e::l=>match nxt A e with
  | none=>some 0
  | some B=>(chk B l).map (· + 1)
structure AOk (A:Au):Prop where
 lt:A.ts.length=64
 lo:A.ow.length=32
 lp:A.pn.length=16
 st:∀ t∈A.ts,0≤t.st∧t.st≤3
 late:∀ t∈A.ts,0≤t.late∧t.late≤255
 on:∀ t∈A.ts,t.on<160
 job:∀ t∈A.ts,t.job<4294967296
 lev:∀ t∈A.ts,0≤t.lev∧t.lev≤32
 own:∀ x∈A.ow,0≤x∧x≤64
 isr:0≤A.isr∧A.isr≤16
 run:0≤A.run∧A.run≤64
 co:0≤A.last.co∧A.last.co<18446744073709551616
 cy:0≤A.last.cy∧A.last.cy<18446744073709551616
 dk:0≤A.due.k∧A.due.k≤24
 da:A.due.a<256
 db:A.due.b<256
 dz:A.due.k=0→A.due=du0
end Go.Au
namespace Go.Dl
abbrev Ck:=Int×Int
def insS (x:Ck):List Ck→List Ck
 | []=>[x]
 | y::r=>if y.2≤x.2 then y::insS x r else x::y::r
def pre (S:List Ck) (k:Nat):Int:=if k=0 then 0 else (S.getD (k-1) (0,0)).2
structure SOk (S:List Ck):Prop where
 up:S.Pairwise fun a b=>a.2≤b.2
 nd:(S.map Prod.fst).Nodup
 id:∀ x∈S,0≤x.1∧x.1<256
 lf:∀ x∈S,1≤x.2∧x.2<4294967296
def has (S:List Ck) (id:Int):Prop:=id∈S.map Prod.fst
instance (S:List Ck) (id:Int):Decidable (has S id):=inferInstanceAs (Decidable (_∈_))
def delS (id:Int) (S:List Ck):List Ck:=S.filter fun x=>x.1 != id
def at_ (S:List Ck) (id:Int):Nat:=(S.map Prod.fst).idxOf id
def dec (x:Ck):Ck:=(x.1,x.2-1)
def overS (S:List Ck):List Int:=(S.filter fun x=>x.2==1).map Prod.fst
def tickS (S:List Ck):List Ck:=(S.filter fun x=>x.2 != 1).map dec
def leftOf (S:List Ck) (id:Int):Int:=match S.find? (fun x=>x.1==id) with
 | some x=>x.2
 | none=>0
def fromOf (S:List Ck) (id:Int):Int:=(S.countP fun x=>decide (id≤x.1):Nat)
end Go.Dl
namespace Go.Sx
open Go.RowKit
class Enc (α:Type) (sz:outParam Nat) where
 enc:α→List Value
 len:∀ x,(enc x).length=sz
 one:∀ x, ∀ u∈enc x,u.oneCell'=true
 dft:α
 pos:0<sz
class EncAt {α:Type} {sz:Nat} [E:Enc α sz] (x:α) (c:Nat) (v:outParam Value):Prop where
 at_:(E.enc x)[c]?=some v
class EncSet {α:Type} {sz:Nat} [E:Enc α sz] (x:α) (c:Nat) (v:Value) (x':outParam α):Prop where
 set_:E.enc x'=(E.enc x).set c v
 lt:c<sz
section
variable {α:Type} {sz:Nat} [E:Enc α sz]
def cellsOf (l:List α):List Value:=l.flatMap E.enc
theorem cellsOf_nil:cellsOf ([]:List α)=[]:=rfl
theorem cellsOf_cons (x:α) (l:List α):cellsOf (x::l)=E.enc x++cellsOf l:=by simp [cellsOf]
theorem cellsOf_append (l m:List α):cellsOf (l++m)=cellsOf l++cellsOf m:=by simp [cellsOf]
theorem cellsOf_len (l:List α):(cellsOf l).length=l.length*sz:=by
 induction l with
 | nil=>simp [cellsOf]
 | cons x l ih=>rw [cellsOf_cons,List.length_append,E.len,ih,List.length_cons,Nat.add_mul];omega
theorem cellsOf_one (l:List α):∀ u∈cellsOf l,u.oneCell'=true:=by
 intro u hu;obtain ⟨x,_,h⟩:=List.mem_flatMap.1 hu;exact E.one x u h
theorem cellsOf_at {l:List α} {k c:Nat} (hk:k<l.length) (hc:c<sz):(cellsOf l)[k*sz+c]?=(E.enc (l.getD k E.dft))[c]?:=by
 induction l generalizing k with
 | nil=>simp at hk
 | cons x l ih =>
  rw [cellsOf_cons]
  cases k with
  | zero=>rw [Nat.zero_mul,Nat.zero_add,List.getElem?_append_left (by rw [E.len];exact hc)];simp [List.getD]
  | succ k =>
   rw [List.getElem?_append_right (by rw [E.len,Nat.add_mul];omega),E.len,show (k+1)*sz+c-sz=k*sz+c by rw [Nat.add_mul];omega,ih (by simpa using hk)];simp [List.getD]
theorem cellsOf_set {l:List α} {k c:Nat} {v:Value} {x':α} (hk:k<l.length) (hc:c<sz) (h:E.enc x'=(E.enc (l.getD k E.dft)).set c v):(cellsOf l).set (k*sz+c) v=cellsOf (l.set k x'):=by
 induction l generalizing k with
 | nil=>simp at hk
 | cons x l ih =>
  cases k with
  | zero =>
   rw [List.set_cons_zero,cellsOf_cons,cellsOf_cons,h,Nat.zero_mul,Nat.zero_add,List.set_append_left _ _ (by rw [E.len];exact hc)];simp [List.getD]
  | succ k =>
   rw [List.set_cons_succ,cellsOf_cons,cellsOf_cons,List.set_append_right _ _ (by rw [E.len,Nat.add_mul];omega),E.len,show (k+1)*sz+c-sz=k*sz+c by rw [Nat.add_mul];omega,ih (by simpa using hk) (by simpa [List.getD] using h)]
theorem cellsOf_take (l:List α) (k:Nat):cellsOf (l.take k)=(cellsOf l).take (k*sz):=by
 induction l generalizing k with
 | nil=>simp [cellsOf]
 | cons x l ih =>
  cases k with
  | zero=>simp [cellsOf]
  | succ k=>rw [List.take_succ_cons,cellsOf_cons,cellsOf_cons,ih,List.take_append,E.len,List.take_of_length_le (l:=E.enc x) (by rw [E.len,Nat.add_mul];omega),show (k+1)*sz-sz=k*sz by rw [Nat.add_mul];omega]
theorem cellsOf_drop (l:List α) (k:Nat):cellsOf (l.drop k)=(cellsOf l).drop (k*sz):=by
 induction l generalizing k with
 | nil=>simp [cellsOf]
 | cons x l ih =>
  cases k with
  | zero=>simp
  | succ k=>rw [List.drop_succ_cons,cellsOf_cons,ih,List.drop_append,E.len, @List.drop_eq_nil_of_le _ (E.enc x) _ (by rw [E.len,Nat.add_mul];omega),List.nil_append,show (k+1)*sz-sz=k*sz by rw [Nat.add_mul];omega]
def arrP (b o:Nat) (l:List α):HP:=pts b o (cellsOf l)
def recsP (v:Value) (l:List α):HP:=sliceP sz v l.length (cellsOf l)
def RdR (w:World) (v:Value) (l:List α):Prop :=
 ∃ a cap b off,v=.slice a l.length cap∧l.length≤cap∧cap≤maxLen∧(l≠[]→a=some ⟨b,off,none⟩)∧∀ j u,(cellsOf l)[j]?=some u→w.cell? ⟨b,off+j,none⟩=some u
theorem Sat.recs_form {w0 w:World} {F:HP} {v:Value} {l:List α} (hs:Sat w0 w (recsP v l*F)):∃ a cap,v=.slice a l.length cap:=hs.slice_form
theorem Sat.rdR {w0 w:World} {F:HP} {v:Value} {l:List α} (hs:Sat w0 w (recsP v l*F)):RdR w v l:=by
 rcases hs.slice_out with ⟨rfl,h0,h1,_⟩ | ⟨g,off,cap,sp,rfl,hc,hcm,hx,hsp,hs'⟩
 ·have:l=[]:=List.eq_nil_of_length_eq_zero h0;subst this;exact ⟨none,0,0,0,rfl,Nat.le_refl _,Nat.zero_le _,fun h=>absurd rfl h,fun j u hj=>by simp [cellsOf] at hj⟩
 ·exact ⟨_,cap,g,off,rfl,hc,hcm,fun _=>rfl,fun j u hj=>hs'.cell (by rw [List.getElem?_append_left (List.getElem?_eq_some_iff.1 hj).1];exact hj)⟩
theorem RdR.later {w0 w:World} {v:Value} {l:List α} {P:HP} (h:RdR w0 v l) (hs:Sat w0 w P):RdR w v l:=by
 obtain ⟨a,cap,b,off,h1,h2,h3,h4,h5⟩:=h;exact ⟨a,cap,b,off,h1,h2,h3,h4,fun j u hj=>hs.keep (h5 j u hj)⟩
theorem RdR.caps {w:World} {ad:Option Addr} {n c:Nat} {l:List α} (h:RdR w (.slice ad n c) l):n=l.length∧n≤c∧c≤maxLen:=by
 obtain ⟨a,cap,b,o,e,h3,h4,_⟩:=h;simp only [Value.slice.injEq] at e;obtain ⟨rfl,rfl,rfl⟩:=e;exact ⟨rfl,h3,h4⟩
theorem RdR.news {w:World} {a:Option Addr} {n cap:Nat} {l:List α} (h:RdR w (.slice a n cap) l) :
  n=l.length∧(a=none→n=0)∧∀ ad,a=some ad→∀ j u,(cellsOf l)[j]?=some u→w.cell? (ad.add j)=some u:=by
 obtain ⟨a',cap',b,off,h1,h2,h3,h4,h5⟩:=h;simp only [Value.slice.injEq] at h1;obtain ⟨rfl,rfl,rfl⟩:=h1;have hne:0<l.length→l≠[]:=fun h e=>by simp [e] at h
 refine ⟨rfl,fun hn=>?_,fun ad had j u hu=>?_⟩
 ·rcases Nat.eq_zero_or_pos l.length with h | h
  ·exact h
  ·have:=h4 (hne h);rw [hn] at this;cases this
 ·have hj:j<(cellsOf l).length:=(List.getElem?_eq_some_iff.1 hu).1;have e:=h4 (fun e=>by rw [e] at hj;simp [cellsOf] at hj);rw [had] at e
  cases e
  rw [Addr.add_lit];exact h5 j u hu
theorem rdR_nil (w:World):RdR (α:=α) w (.slice none 0 0) []:=⟨none,0,0,0,rfl,Nat.le_refl _,Nat.zero_le _,fun h=>absurd rfl h,fun j u hj=>by simp [cellsOf] at hj⟩
theorem rdR_lit (l:List α) (w:World) (t:TypeId) (cs:List Value) (hcs:cs=cellsOf l) (n:Nat) (hn:n=l.length) (h:l.length≤maxLen):RdR (w.alloc (.cells cs.toArray t)) (.slice (some ⟨w.heap.size,0,none⟩) n n) l :=
 ⟨_,l.length,w.heap.size,0,by rw [hn],Nat.le_refl _,h,fun _=>rfl,fun j u hj=>by
  rw [Nat.zero_add,World.cell?_alloc_new,hcs]
  simpa using hj⟩
end
class PullR (P:HP) {α:Type} {sz:Nat} (E:Enc α sz) (v:Value) (l:outParam (List α)) (F:outParam HP):Prop where
 eq:P=@recsP α sz E v l*F
section
variable {α:Type} {sz:Nat} [E:Enc α sz]
instance (priority:=2000) PullR.here (v:Value) (l:List α) (F:HP):PullR (recsP v l*F) E v l F:=⟨rfl⟩
instance (priority:=100) PullR.last (v:Value) (l:List α):PullR (recsP v l) E v l emp:=⟨(star_emp _).symm⟩
instance (priority:=1000) PullR.right (A G F:HP) (v:Value) (l:List α) [h:PullR G E v l F]:PullR (A*G) E v l (A*F):=⟨by rw [h.eq];ac_rfl⟩
instance (priority:=900) PullR.left (A G F:HP) (v:Value) (l:List α) [h:PullR A E v l F]:PullR (A*G) E v l (F*G):=⟨by rw [h.eq];ac_rfl⟩
theorem recsP_nil:recsP (α:=α) (.slice none 0 0) []=emp:=HP.same fun h=>by
 constructor
 ·intro p
  rcases p with ⟨_,_,_,e⟩ | ⟨g,off,cap,sp,e,_⟩
  ·exact e
  ·cases e
 ·intro e;exact Or.inl ⟨rfl,rfl,rfl,e⟩
theorem recsP_empty (g o:Nat):recsP (α:=α) (.slice (some ⟨g,o,none⟩) 0 0) []=emp:=HP.same fun h=>by
 constructor
 ·intro p
  rcases p with ⟨e,_⟩ | ⟨g',off,cap,sp,e,_,_,hx,hsp,p⟩
  ·cases e
  ·simp only [Value.slice.injEq] at e;obtain ⟨_,_,rfl⟩:=e;have h1:cellsOf ([]:List α)++sp=[]:=by rw [cellsOf_nil,List.nil_append];simpa using hsp
   rw [h1,pts_nil] at p;exact p
 ·intro e;refine Or.inr ⟨g,o,0,[],rfl,Nat.le_refl _,Nat.zero_le _,by simp [cellsOf],by simp,?_⟩;rw [cellsOf_nil,List.nil_append,pts_nil];exact e
instance (priority:=50) PullR.nil (P:HP):PullR P E (.slice none 0 0) [] P:=⟨by rw [recsP_nil,emp_star]⟩
instance (priority:=50) PullR.empty (P:HP) (g o:Nat):PullR P E (.slice (some ⟨g,o,none⟩) 0 0) [] P:=⟨by rw [recsP_empty,emp_star]⟩
theorem Sat.recs_cell {w0 w:World} {F:HP} {g off n cap:Nat} {l:List α} (hs:Sat w0 w (recsP (.slice (some ⟨g,off,none⟩) n cap) l*F)) {k c:Nat} {v:Value} (hk:k<l.length) (hv:(E.enc (l.getD k E.dft))[c]?=some v) :
  w.cell? ⟨g,off+k*sz+c,none⟩=some v∧w.frozen? ⟨g,off+k*sz+c,none⟩=false:=by
 have hc:c<sz:=by rw [← E.len (l.getD k E.dft)];exact (List.getElem?_eq_some_iff.1 hv).1
 rcases hs.slice_out with ⟨e,_⟩ | ⟨g',off',cap',sp,e,_,_,hx,_,hs'⟩
 ·cases e
 ·simp only [Value.slice.injEq,Option.some.injEq,Addr.mk.injEq] at e;obtain ⟨⟨rfl,rfl,_⟩,_,_⟩:=e;have h1:(cellsOf l)[k*sz+c]?=some v:=by rw [cellsOf_at hk hc];exact hv
  rw [Nat.add_assoc];exact pts_split hs' (by rw [List.getElem?_append_left (List.getElem?_eq_some_iff.1 h1).1];exact h1)
instance (priority:=1200) Cell.recs (g off n cap k c:Nat) (l:List α) (v:Value) [h:Lt k l.length] [e:EncAt (l.getD k E.dft) c v]:Cell (recsP (.slice (some ⟨g,off,none⟩) n cap) l) g (off+k*sz+c) v :=
 ⟨fun hs=>(hs.recs_cell h.lt e.at_).1,fun hs=>(hs.recs_cell h.lt e.at_).2⟩
instance (priority:=1210) Cell.recs0 (g off n cap k:Nat) (l:List α) (v:Value) [h:Lt k l.length] [e:EncAt (l.getD k E.dft) 0 v]:Cell (recsP (.slice (some ⟨g,off,none⟩) n cap) l) g (off+k*sz) v :=
 ⟨fun hs=>(hs.recs_cell h.lt e.at_).1,fun hs=>(hs.recs_cell h.lt e.at_).2⟩
instance (priority:=1190) Cell.recsZ (g off n cap c:Nat) (l:List α) (v:Value) [h:Lt 0 l.length] [e:EncAt (l.getD 0 E.dft) c v]:Cell (recsP (.slice (some ⟨g,off,none⟩) n cap) l) g (off+c) v :=
 ⟨fun hs=>by have:=(hs.recs_cell (k:=0) h.lt e.at_).1;rwa [Nat.zero_mul,Nat.add_zero] at this,fun hs=>by have:=(hs.recs_cell (k:=0) h.lt e.at_).2;rwa [Nat.zero_mul,Nat.add_zero] at this⟩
instance (priority:=1195) Cell.recsZ0 (g off n cap:Nat) (l:List α) (v:Value) [h:Lt 0 l.length] [e:EncAt (l.getD 0 E.dft) 0 v]:Cell (recsP (.slice (some ⟨g,off,none⟩) n cap) l) g off v :=
 ⟨fun hs=>by have:=(hs.recs_cell (k:=0) h.lt e.at_).1;simpa using this,fun hs=>by have:=(hs.recs_cell (k:=0) h.lt e.at_).2;simpa using this⟩
theorem recs_upd {w0 w:World} {F:HP} {g off n cap:Nat} {l:List α} (hs:Sat w0 w (recsP (.slice (some ⟨g,off,none⟩) n cap) l*F)) {k c:Nat} {v:Value} {x':α} (hk:k<l.length) (hc:c<sz) (h:E.enc x'=(E.enc (l.getD k E.dft)).set c v) :
  Sat w0 (w.setCell ⟨g,off+k*sz+c,none⟩ v) (recsP (.slice (some ⟨g,off,none⟩) n cap) (l.set k x')*F):=by
 rcases hs.slice_out with ⟨e,_⟩ | ⟨g',off',cap',sp,e,h1,h2,hx,hsp,hs'⟩
 ·cases e
 ·simp only [Value.slice.injEq,Option.some.injEq,Addr.mk.injEq] at e;obtain ⟨⟨rfl,rfl,_⟩,rfl,rfl⟩:=e;have hlt:k*sz+c<(cellsOf l).length:=by
   rw [cellsOf_len]
   calc k*sz+c<k*sz+sz:=by omega
    _=(k+1)*sz:=by rw [Nat.add_mul];omega
    _≤l.length*sz:=Nat.mul_le_mul_right _ hk
  have h3:=hs'.set (j:=k*sz+c) (by rw [List.length_append];omega) v;rw [List.set_append_left _ _ hlt,cellsOf_set hk hc h,← Nat.add_assoc] at h3;have h4:=Sat.slice_in (k:=sz) (n:=l.length) h3 h1 h2 (by rw [cellsOf_len,List.length_set]) hsp;unfold recsP;rw [List.length_set];exact h4
instance (priority:=1200) Upd.recs (g off n cap k c:Nat) (l:List α) (v:Value) (x':α) [h:Lt k l.length] [e:EncSet (l.getD k E.dft) c v x']:Upd (recsP (.slice (some ⟨g,off,none⟩) n cap) l) g (off+k*sz+c) v (recsP (.slice (some ⟨g,off,none⟩) n cap) (l.set k x')) :=
 ⟨fun hs=>recs_upd hs h.lt e.lt e.set_⟩
instance (priority:=1210) Upd.recs0 (g off n cap k:Nat) (l:List α) (v:Value) (x':α) [h:Lt k l.length] [e:EncSet (l.getD k E.dft) 0 v x']:Upd (recsP (.slice (some ⟨g,off,none⟩) n cap) l) g (off+k*sz) v (recsP (.slice (some ⟨g,off,none⟩) n cap) (l.set k x')) :=
 ⟨fun hs=>recs_upd hs h.lt e.lt e.set_⟩
instance (priority:=1190) Upd.recsZ (g off n cap c:Nat) (l:List α) (v:Value) (x':α) [h:Lt 0 l.length] [e:EncSet (l.getD 0 E.dft) c v x']:Upd (recsP (.slice (some ⟨g,off,none⟩) n cap) l) g (off+c) v (recsP (.slice (some ⟨g,off,none⟩) n cap) (l.set 0 x')) :=
 ⟨fun {w0 w F} hs=>by have:=recs_upd hs h.lt e.lt e.set_;rwa [Nat.zero_mul,Nat.add_zero] at this⟩
instance (priority:=1195) Upd.recsZ0 (g off n cap:Nat) (l:List α) (v:Value) (x':α) [h:Lt 0 l.length] [e:EncSet (l.getD 0 E.dft) 0 v x']:Upd (recsP (.slice (some ⟨g,off,none⟩) n cap) l) g off v (recsP (.slice (some ⟨g,off,none⟩) n cap) (l.set 0 x')) :=
 ⟨fun {w0 w F} hs=>by have:=recs_upd hs h.lt e.lt e.set_;simpa using this⟩
theorem arr_cell {w0 w:World} {F:HP} {b o:Nat} {l:List α} (hs:Sat w0 w (arrP b o l*F)) {k c:Nat} {v:Value} (hk:k<l.length) (hv:(E.enc (l.getD k E.dft))[c]?=some v) :
  w.cell? ⟨b,o+k*sz+c,none⟩=some v∧w.frozen? ⟨b,o+k*sz+c,none⟩=false:=by
 have hc:c<sz:=by rw [← E.len (l.getD k E.dft)];exact (List.getElem?_eq_some_iff.1 hv).1
 rw [Nat.add_assoc];exact pts_split hs (by rw [cellsOf_at hk hc];exact hv)
instance (priority:=1200) Cell.arr (b o k c:Nat) (l:List α) (v:Value) [h:Lt k l.length] [e:EncAt (l.getD k E.dft) c v]:Cell (arrP b o l) b (o+k*sz+c) v :=
 ⟨fun hs=>(arr_cell hs h.lt e.at_).1,fun hs=>(arr_cell hs h.lt e.at_).2⟩
instance (priority:=1210) Cell.arr0 (b o k:Nat) (l:List α) (v:Value) [h:Lt k l.length] [e:EncAt (l.getD k E.dft) 0 v]:Cell (arrP b o l) b (o+k*sz) v :=
 ⟨fun hs=>(arr_cell hs h.lt e.at_).1,fun hs=>(arr_cell hs h.lt e.at_).2⟩
theorem arr_upd {w0 w:World} {F:HP} {b o:Nat} {l:List α} (hs:Sat w0 w (arrP b o l*F)) {k c:Nat} {v:Value} {x':α} (hk:k<l.length) (hc:c<sz) (h:E.enc x'=(E.enc (l.getD k E.dft)).set c v) :
  Sat w0 (w.setCell ⟨b,o+k*sz+c,none⟩ v) (arrP b o (l.set k x')*F):=by
 have hlt:k*sz+c<(cellsOf l).length:=by
  rw [cellsOf_len]
  calc k*sz+c<k*sz+sz:=by omega
   _=(k+1)*sz:=by rw [Nat.add_mul];omega
   _≤l.length*sz:=Nat.mul_le_mul_right _ hk
 have h3:=Sat.set (hs:Sat w0 w (pts b o (cellsOf l)*F)) (j:=k*sz+c) hlt v;rw [cellsOf_set hk hc h,← Nat.add_assoc] at h3;exact h3
instance (priority:=1200) Upd.arr (b o k c:Nat) (l:List α) (v:Value) (x':α) [h:Lt k l.length] [e:EncSet (l.getD k E.dft) c v x']:Upd (arrP b o l) b (o+k*sz+c) v (arrP b o (l.set k x')) :=
 ⟨fun hs=>arr_upd hs h.lt e.lt e.set_⟩
instance (priority:=1210) Upd.arr0 (b o k:Nat) (l:List α) (v:Value) (x':α) [h:Lt k l.length] [e:EncSet (l.getD k E.dft) 0 v x']:Upd (arrP b o l) b (o+k*sz) v (arrP b o (l.set k x')) :=
 ⟨fun hs=>arr_upd hs h.lt e.lt e.set_⟩
end
class RdC (w:World) {α:Type} {sz:Nat} (E:Enc α sz) (v:Value) (l:outParam (List α)):Prop where
 rd:@RdR α sz E w v l
class OldRec (w0:World) {α:Type} {sz:Nat} (E:Enc α sz) (v:Value) (l:outParam (List α)):Prop where
 old:@RdR α sz E w0 v l
section
variable {α:Type} {sz:Nat} [E:Enc α sz]
instance (priority:=1000) RdC.own (w0 w:World) (P:HP) (v:Value) (l:List α) (F:HP) [h:Sat w0 w P] [p:PullR P E v l F]:RdC w E v l:=⟨(h.perm p.eq).rdR⟩
instance (priority:=900) RdC.old (w0 w:World) (P:HP) (v:Value) (l:List α) [h:Sat w0 w P] [c:OldRec w0 E v l]:RdC w E v l:=⟨c.old.later h⟩
end
class Cells {α:Type} {sz:Nat} (E:Enc α sz) (xs:List Value) (l:outParam (List α)):Prop where
 eq:xs=@cellsOf α sz E l
instance (priority:=1100) RdC.lit {α:Type} {sz:Nat} [E:Enc α sz] (w:World) (xs:List Value) (x:α) (t:TypeId) (n:Nat) [h:Cells E xs [x]] [s:Size w n]:RdC (w.alloc (.cells xs.toArray t)) E (.slice (some ⟨n,0,none⟩) 1 1) [x] :=
 ⟨s.eq ▸ rdR_lit [x] w t xs h.eq 1 rfl (by simp [maxLen])⟩
class ElemR (P:Program) (t:TypeId) (α:outParam Type) (sz:outParam Nat) (E:outParam (Enc α sz)) (e bytes:outParam Nat) (z:outParam Value):Prop where
 el:ElemT P t e sz bytes z
 le:bytes≤100
section
variable {P:Program} {w0 w:World} {P0 F:HP} {α:Type} {sz:Nat} {E:Enc α sz} {t e bytes:Nat} {z:Value} {l l2:List α} {o:Oper} {a:Act} {Q:Exit→Act→World→Prop} {s x:Operand} {ad sa:Option Addr} {m c sn sc:Nat}
theorem wp_append_recs {K:Act→World→Prop}
  (ho:o.op=.call { callee:=.builtin .append,args:=#[s,x],argTypes:=#[t,t] }) [ET:ElemR P t α sz E e bytes z]
  (hv:a.eval s=.slice sa sn sc) (hx:a.eval x=.slice ad m c) [hs:Sat w0 w P0] [hp:PullR P0 E (.slice sa sn sc) l F] [hr:RdC w E (.slice ad m c) l2]
  (h63:sn+m≤1000000000)
  (h:∀ a' cap' L w',Hid (L=l++l2)→L.length≤sn+m→sn+m≤L.length→Sat w0 w' (recsP (.slice a' L.length cap') L*F)→w.heap.size≤w'.heap.size→K (a.put o.dst (.slice a' L.length cap')) w'):o.wp P a w K Q:=by
 have hn:=hr.rd.news;have hml:m=l2.length:=hn.1;have hsl:sn=l.length:=(hs.perm hp.eq).rdR.caps.1;have hs1:Sat w0 w (recsP (.slice sa sn sc) l*F):=hs.perm hp.eq;have hbb:(l.length+m)*bytes≤140737488355328:=Nat.le_trans (Nat.mul_le_mul (show l.length+m≤1000000000 by omega) ET.le) (by decide);refine wp_append_sat s x ho ET.el hv hs1 ad m c (cellsOf l2) hx (by rw [cellsOf_len,hml]) hn.2.1 hn.2.2 (cellsOf_one l2) (by unfold maxLen;omega) hbb ?_;intro v' w' hs' hz;have hs2:Sat w0 w' (recsP v' (l++l2)*F):=by
  unfold recsP;rw [List.length_append,cellsOf_append,← hml];exact hs'
 obtain ⟨a',cap',rfl⟩:=hs2.slice_form;exact h a' cap' _ w' rfl (by simp;omega) (by simp;omega) hs2 hz
theorem wpList_append_recs {ops:Array Oper} {rest:List Oper} (hgd:o.guard=none)
  (ho:o.op=.call { callee:=.builtin .append,args:=#[s,x],argTypes:=#[t,t] }) [ET:ElemR P t α sz E e bytes z]
  (hv:a.eval s=.slice sa sn sc) (hx:a.eval x=.slice ad m c) [hs:Sat w0 w P0] [hp:PullR P0 E (.slice sa sn sc) l F] [hr:RdC w E (.slice ad m c) l2]
  (h63:sn+m≤1000000000)
  (h:∀ a' cap' L w',Hid (L=l++l2)→L.length≤sn+m→sn+m≤L.length→Sat w0 w' (recsP (.slice a' L.length cap') L*F)→w.heap.size≤w'.heap.size→wpList P ops Q rest (a.put o.dst (.slice a' L.length cap')) w'):wpList P ops Q (o::rest) a w :=
 wpList_plain hgd fun _ hK=>wp_append_recs ho hv hx h63 fun a' cap' L w' h1 h2 h3 h4 h5=>hK _ _ (h a' cap' L w' h1 h2 h3 h4 h5)
end
class PartR {α:Type} {sz:Nat} (E:Enc α sz) (v:Value) (src:outParam Value) (l L:outParam (List α)):Prop where
 part:∀ w, @RdR α sz E w src l→@RdR α sz E w v L
instance (priority:=1050) RdC.part {α:Type} {sz:Nat} [E:Enc α sz] (w:World) (v src:Value) (l L:List α) [h:PartR E v src l L] [r:RdC w E src l]:RdC w E v L:=⟨h.part w r.rd⟩
section
variable {α:Type} {sz:Nat} [E:Enc α sz]
theorem RdR.cut {w:World} {ad:Option Addr} {n c:Nat} {l:List α} (h:RdR w (.slice ad n c) l) (i m c':Nat) (hi:i+m≤l.length) (h1:m≤c') (h2:c'≤maxLen) :
  RdR w (.slice (ad.map (·.add (i * sz))) m c') ((l.drop i).take m):=by
 obtain ⟨a,cap,b,o,e,h3,h4,h5,h6⟩:=h;simp only [Value.slice.injEq] at e;obtain ⟨rfl,rfl,rfl⟩:=e;have hl:((l.drop i).take m).length=m:=by simp;omega
 by_cases h0:m=0
 ·subst h0;exact ⟨_,c',0,0,by rw [hl],by rw [hl];omega,h2,fun h=>absurd (by simp) h,fun j u hj=>by rw [List.take_zero,cellsOf_nil] at hj;cases hj⟩
 ·have hb:=h5 (by rintro rfl;simp at hi;omega);subst hb;refine ⟨_,c',b,o+i*sz,by rw [hl],by rw [hl];omega,h2,fun _=>by simp [Addr.add],fun j u hj=>?_⟩;rw [cellsOf_take,cellsOf_drop] at hj;have hj':=(List.getElem?_eq_some_iff.1 hj).1;rw [List.length_take] at hj';rw [List.getElem?_take_of_lt (by omega),List.getElem?_drop] at hj;have:=h6 (i*sz+j) u hj
  rwa [← Nat.add_assoc] at this
theorem partR_sliced {ad:Option Addr} {n c:Nat} {l:List α} (lo hi:Nat) (h1:lo≤hi) (h2:hi≤l.length):∃ x, ∀ w,RdR w (.slice ad n c) l→sliced ad lo hi c sz=.slice x ((l.take hi).drop lo).length (c-lo)∧RdR w (.slice x ((l.take hi).drop lo).length (c-lo)) ((l.take hi).drop lo):=by
 have hl:((l.take hi).drop lo).length=hi-lo:=by simp;omega
 have he:(l.take hi).drop lo=(l.drop lo).take (hi-lo):=by rw [List.drop_take]
 by_cases hc:c=lo
 ·refine ⟨ad,fun w hr=>⟨by simp [sliced,hc,hl],?_⟩⟩;have hq:=hr.caps;have hn:l.drop lo=[]:=List.drop_eq_nil_of_le (by omega);rw [hl,he,hn,List.take_nil];exact ⟨ad,c-lo,0,0,by simp;omega,Nat.zero_le _,by omega,fun h=>absurd rfl h,fun j u hj=>by rw [cellsOf_nil] at hj;cases hj⟩
 ·refine ⟨ad.map (·.add (lo * sz)),fun w hr=>⟨by simp [sliced,hc,hl],?_⟩⟩;have hq:=hr.caps;rw [hl,he];exact hr.cut lo (hi - lo) (c - lo) (by omega) (by omega) (by omega)
end
section
variable {P:Program} {w:World} {α:Type} {sz:Nat} {E:Enc α sz} {t e bytes:Nat} {z:Value} {l:List α} {ops:Array Oper} {rest:List Oper} {o:Oper} {a:Act} {Q:Exit→Act→World→Prop} {s lo hi:Operand} {sa:Option Addr} {sn sc:Nat} {i j:Int}
theorem slicedR_go (ET:ElemT P t e sz bytes z):P.underlying t=some (.slice (P.elem t))∧(sizeOf (P.elem t)).run P w=.ok sz w:=by
 have he:P.elem t=e:=by simp [Program.elem,ET.ht]
 obtain ⟨inf,h1,h2,h3,h4⟩:=info_parts ET.hi;refine ⟨by rw [he];exact ET.ht,?_⟩;rw [he];simp [sizeOf,typeInfo,h1,h3]
theorem wpList_sliceR_from (hgd:o.guard=none) (ho:o.op=.slice t s (some lo) none none) [ET:ElemR P t α sz E e bytes z] (hv:a.eval s=.slice sa sn sc) (hlo:a.eval lo=.int .i64 i) [hr:RdC w E (.slice sa sn sc) l] (h0:0≤i) (h1:i≤sn)
  (h:∀ x c' L,PartR E (.slice x L.length c') (.slice sa sn sc) l L→Hid (L=l.drop i.toNat)→L.length+i.toNat≤sn→sn≤L.length+i.toNat→wpList P ops Q rest (a.put o.dst (.slice x L.length c')) w):wpList P ops Q (o::rest) a w:=by
 refine wpList_plain hgd fun K hK=>?_;obtain ⟨e1,e2⟩:=slicedR_go (w:=w) ET.el;have hq:=hr.rd.caps;have h1:i≤l.length:=by omega
 obtain ⟨x,hx⟩:=partR_sliced (ad:=sa) (n:=sn) (c:=sc) (l:=l) i.toNat l.length (by omega) (Nat.le_refl _);have hrun:(Instr.sliceAt t (.slice sa sn sc) (some (.int .i64 i)) none none).run P w=.ok (sliced sa i.toNat sn sc sz) w:=by
  rw [run_sliceAt_slice w t _ _ _ _ e1,run_slice_l w t sa sn sc e1 .i64 i h0 (by omega),e2];rfl
 unfold Oper.wp execOp;simp only [ho,Option.map,hv,hlo,hrun,Sem.run_bind,Sem.run_pure,Result.andThen_ok];have hl:(l.take l.length).drop i.toNat=l.drop i.toNat:=by rw [List.take_length]
 rw [hl] at hx;have hx1:=(hx w hr.rd).1;rw [← hq.1] at hx1;rw [hx1];exact hK _ _ (h x (sc-i.toNat) (l.drop i.toNat) ⟨fun w hw=>(hx w hw).2⟩ rfl (by simp;omega) (by simp;omega))
theorem wpList_sliceR_to (hgd:o.guard=none) (ho:o.op=.slice t s none (some hi) none) [ET:ElemR P t α sz E e bytes z] (hv:a.eval s=.slice sa sn sc) (hhi:a.eval hi=.int .i64 j) [hr:RdC w E (.slice sa sn sc) l] (h0:0≤j) (h1:j≤sn)
  (h:∀ x c' L,PartR E (.slice x L.length c') (.slice sa sn sc) l L→Hid (L=l.take j.toNat)→L.length≤j.toNat→j.toNat≤L.length→wpList P ops Q rest (a.put o.dst (.slice x L.length c')) w):wpList P ops Q (o::rest) a w:=by
 refine wpList_plain hgd fun K hK=>?_;obtain ⟨e1,e2⟩:=slicedR_go (w:=w) ET.el;have hq:=hr.rd.caps;have h1:j≤l.length:=by omega
 obtain ⟨x,hx⟩:=partR_sliced (ad:=sa) (n:=sn) (c:=sc) (l:=l) 0 j.toNat (Nat.zero_le _) (by omega);have hrun:(Instr.sliceAt t (.slice sa sn sc) none (some (.int .i64 j)) none).run P w=.ok (sliced sa 0 j.toNat sc sz) w:=by
  rw [run_sliceAt_slice w t _ _ _ _ e1,run_slice_h w t sa sn sc e1 .i64 j h0 (by omega),e2];rfl
 unfold Oper.wp execOp;simp only [ho,Option.map,hv,hhi,hrun,Sem.run_bind,Sem.run_pure,Result.andThen_ok];have hx1:=(hx w hr.rd).1;have hl:(l.take j.toNat).drop 0=l.take j.toNat:=by rw [List.drop_zero]
 rw [hl] at hx hx1;rw [hx1];exact hK _ _ (h x (sc-0) (l.take j.toNat) ⟨fun w hw=>(hx w hw).2⟩ rfl (by simp;omega) (by simp;omega))
end
section
variable {α:Type} {sz:Nat} [E:Enc α sz]
theorem Sat.someR {w0 w:World} {P F:HP} {l:List α} (hs:Sat w0 w P) (a:Option Addr) (n c:Nat) [p:PullR P E (.slice a n c) l F] (h:0<l.length):∃ g off,a=some ⟨g,off,none⟩:=by
 rcases (hs.perm p.eq:Sat w0 w (recsP (.slice a n c) l*F)).slice_out with ⟨_,h0,_⟩ | ⟨g,off,cap,sp,e,_⟩
 ·omega
 ·simp only [Value.slice.injEq] at e;exact ⟨g,off,e.1⟩
end
def Whole (w:World) (b n:Nat):Prop:=∃ t,w.shape? b=some (t,n)∧w.frozen? ⟨b,n,none⟩=false
theorem Whole.lt {w:World} {b n o:Nat} {v:Value} (h:Whole w b n) (hc:w.cell? ⟨b,o,none⟩=some v):o<n:=by
 obtain ⟨t,h1,_⟩:=h;unfold World.cell? at hc;unfold World.shape? at h1
 split at hc
 ·rename_i c e f he
  simp only at he;rw [he] at h1;simp only [Option.some.injEq,Prod.mk.injEq] at h1;simp only [Option.isSome_none,Bool.false_eq_true,if_false] at hc;have:=(Array.getElem?_eq_some_iff.1 hc).1;omega
 ·cases hc
theorem Whole.drew {w:World} {b n:Nat} (h:Whole w b n):Whole w.drew b n:=h
section
variable {P:Program} {w0 w:World} {F:HP} {t e sz bytes:Nat} {z:Value} {o:Oper} {a:Act} {Q:Exit→Act→World→Prop} {d s:Operand} {b off dl dc sl sc o0:Nat} {sa:Addr} {cs xs ys:List Value}
end
def wpTill (P:Program) (md:Region.Mode) (ops:Array Oper) (Q:Exit→Act→World→Prop) (S:World→Prop) (j0:Nat):Nat→Array Bool→Act→World→Prop
 | 0,listed,a,w=>Region.ready md ops listed=[]∧Q .normal a w
 | fuel+1,listed,a,w =>
  (Region.ready md ops listed=[]→Q .normal a w) ∧
  ∀ i∈Region.ready md ops listed,wpOp P ops Q i (fun a' w'=>(i≠j0→listed.getD j0 true=false→S w')∧wpTill P md ops Q S j0 fuel (listed.setIfInBounds i true) a' w') a w
section
variable {P:Program} {ops:Array Oper} {Q:Exit→Act→World→Prop} {md:Region.Mode} {S:World→Prop} {j0:Nat}
theorem wpAny_of_till:∀ (fuel:Nat) (listed:Array Bool) (a:Act) (w:World),wpTill P md ops Q S j0 fuel listed a w→wpAny P md ops Q fuel listed a w
 | 0,_,_,_,h=>h
 | fuel+1,_,_,_,h=>⟨h.1,fun i hi=>wpOp_mono (fun a' w' h'=>wpAny_of_till fuel _ a' w' h'.2) (h.2 i hi)⟩
def waitsFor (md:Region.Mode) (ops:Array Oper) (j0 i:Nat):Bool:=match ops[j0]? with
 | none=>false
 | some o=>o.after.any fun e=>Region.binds md e && e.on==i
theorem waitsFor_ready {i:Nat} {listed:Array Bool} (h:waitsFor md ops j0 i=true) (hr:j0∈Region.ready md ops listed):listed.getD i false=true:=by
 unfold waitsFor at h;obtain ⟨_,o,ho,hall⟩:=mem_ready.1 hr;rw [ho] at h;obtain ⟨e,he,hb⟩:=Array.any_eq_true'.1 h;simp only [Bool.and_eq_true,beq_iff_eq] at hb;rw [← hb.2];exact hall e he hb.1
theorem unlisted {i:Nat} {listed:Array Bool} (h:listed.getD i true=false):¬ listed.getD i false=true:=by
 rcases Nat.lt_or_ge i listed.size with h' | h'
 ·simp [h'] at h ⊢;exact h
 ·simp [Array.getElem?_eq_none h'] at h
theorem listed_set {i:Nat} {listed:Array Bool} (h:listed.getD i true=false):(listed.setIfInBounds i true).getD i true=true:=by
 rcases Nat.lt_or_ge i listed.size with h' | h'
 ·simp [h']
 ·simp [Array.getElem?_eq_none h'] at h
theorem wpTill_first {i:Nat} {oi:Oper} {v:Value} {Si:World→Prop} (hi:ops[i]?=some oi) (hsel:∀ (j:Nat) (o:Oper) cs b,ops[j]?=some o→o.op≠.select cs b)
  (hQ:∀ c a w,Q (.panic c) (a.put oi.dst v) w→Q (.panic c) a w) (hij:i≠j0) (hneed:(∀ w,Si w)∨((∀ w,S w→Si w)∧waitsFor md ops j0 i=true)) :
  ∀ (fuel:Nat) (listed:Array Bool) (a:Act) (w:World),
   (∀ j oj,ops[j]?=some oj→j≠i→listed.getD j true=false→(∀ e∈oj.after,Region.binds md e=true→e.on≠i)→oi.apart ops oj=true) →
   i∈Region.ready md ops listed→((∀ w,Si w)∨listed.getD j0 true=false)→YieldsIf P ops Si oi v a→(listed.getD j0 true=false→S w) →
   wpTill P md ops Q S j0 fuel (listed.setIfInBounds i true) (a.put oi.dst v) w→wpTill P md ops Q S j0 (fuel+1) listed a w:=by
 have hSi:∀ (listed:Array Bool) (w:World),((∀ w,Si w)∨listed.getD j0 true=false)→(listed.getD j0 true=false→S w)→Si w:=fun listed w h1 h2=>by
  rcases h1 with h | h
  ·exact h w
  ·rcases hneed with h3 | ⟨h3,_⟩
   ·exact h3 w
   ·exact h3 w (h2 h)
 intro fuel
 induction fuel with
 | zero =>
  intro listed a w _ hr hst hy hS H;refine ⟨fun h=>(by rw [h] at hr;cases hr),fun j hj=>?_⟩
  by_cases hji:j=i
  ·subst hji;exact hy.wpOp hi (hSi listed w hst hS) ⟨fun _ h=>hS h,H⟩
  ·have:=ready_mono hj hji;rw [H.1] at this
   cases this
 | succ fuel ih =>
  intro listed a w hfree hr hst hy hS H;refine ⟨fun h=>(by rw [h] at hr;cases hr),fun j hj=>?_⟩
  by_cases hji:j=i
  ·subst hji;exact hy.wpOp hi (hSi listed w hst hS) ⟨fun _ h=>hS h,H⟩
  ·have h1:=H.2 j (ready_mono hj hji);obtain ⟨hjun,oj,hoj,hall⟩:=mem_ready.1 hj;have hiun:=(mem_ready.1 hr).1;have hnot:∀ e∈oj.after,Region.binds md e=true→e.on≠i:=fun e he hb heq=>by
    have h1:=hall e he hb;rw [heq] at h1;exact unlisted hiun h1
   have h2:=wpOp_putIf hoj (hfree j oj hoj hji hjun hnot) (fun cs b=>hsel i oi cs b hi) (fun cs b=>hsel j oj cs b hoj) hQ hy h1;have hfree':∀ k ok,ops[k]?=some ok→k≠i→(listed.setIfInBounds j true).getD k true=false →
     (∀ e∈ok.after,Region.binds md e=true→e.on≠i)→oi.apart ops ok=true:=fun k ok hk hki hun hno=>by
    refine hfree k ok hk hki ?_ hno
    by_cases hjk:j=k
    ·subst hjk;exact hjun
    ·rw [getD_set_ne true hjk] at hun;exact hun
   have hst':(∀ w,Si w)∨(listed.setIfInBounds j true).getD j0 true=false:=by
    rcases hst with h | h
    ·exact .inl h
    ·rcases hneed with h3 | ⟨_,h3⟩
     ·exact .inl h3
     ·by_cases hj0:j=j0
      ·subst hj0;exact absurd (waitsFor_ready h3 hj) (unlisted hiun)
      ·exact .inr (by rw [getD_set_ne true hj0];exact h)
   refine wpOp_mono (fun a' w' h3=>⟨fun hn hl=>h3.2.1 hn (by rw [getD_set_ne true hij];exact hl),ih (listed.setIfInBounds j true) a' w' hfree' (ready_mono hr (Ne.symm hji)) hst' h3.1 ?_ ?_⟩) h2
   ·intro hl
    by_cases hj0:j=j0
    ·subst hj0;rw [listed_set hjun] at hl
     cases hl
    ·rw [getD_set_ne true hj0] at hl;exact h3.2.1 hj0 (by rw [getD_set_ne true hij];exact hl)
   ·rw [Array.setIfInBounds_comm _ _ hji];exact h3.2.2
def wpPlan (P:Program) (ops:Array Oper) (Q:Exit→Act→World→Prop) (S:World→Prop) (j0:Nat):List (Nat×Nat)→Act→World→Prop
 | [],a,w=>Q .normal a w
 | (i,0)::rest,a,w=>∃ o v,ops[i]?=some o∧YieldsIf P ops (fun _=>True) o v a∧wpPlan P ops Q S j0 rest (a.put o.dst v) w
 | (i,1)::rest,a,w=>∃ o v,ops[i]?=some o∧YieldsIf P ops S o v a∧wpPlan P ops Q S j0 rest (a.put o.dst v) w
 | (i,_+2)::rest,a,w=>wpOp P ops Q i (fun a' w'=>(i≠j0→S w')∧wpPlan P ops Q S j0 rest a' w') a w
def tillB (md:Region.Mode) (ops:Array Oper) (j0:Nat):List (Nat×Nat)→Array Bool→Bool
 | [],listed=>(Region.ready md ops listed).isEmpty
 | (i,0)::rest,listed=>(i != j0) && (Region.ready md ops listed).contains i && Region.free md ops listed i && tillB md ops j0 rest (listed.setIfInBounds i true)
 | (i,1)::rest,listed=>(i != j0) && waitsFor md ops j0 i && !listed.getD j0 true && (Region.ready md ops listed).contains i && Region.free md ops listed i && tillB md ops j0 rest (listed.setIfInBounds i true)
 | (i,_+2)::rest,listed=>(Region.ready md ops listed==[i]) && tillB md ops j0 rest (listed.setIfInBounds i true)
def planTillB (ops:Array Oper) (j0:Nat) (plan:List (Nat×Nat)):Bool :=
 Region.noSelect ops && (plan.length==ops.size) && tillB .any ops j0 plan (Array.replicate ops.size false)
theorem wpTill_of_plan (hs:Region.noSelect ops=true) (hQ:∀ (t:Array Value) c (a:Act) w,Q (.panic c) { a with tmps:=t } w→Q (.panic c) a w) :
  ∀ (plan:List (Nat×Nat)) (listed:Array Bool) (a:Act) (w:World),tillB md ops j0 plan listed=true→(listed.getD j0 true=false→S w)→wpPlan P ops Q S j0 plan a w→wpTill P md ops Q S j0 plan.length listed a w
 | [],_,_,_,hB,_,h=>⟨by simpa [tillB] using hB,h⟩
 | (i,0)::rest,listed,a,w,hB,hS,h=>by
  simp only [tillB,Bool.and_eq_true,bne_iff_ne] at hB;obtain ⟨⟨⟨h0,hr⟩,hf⟩,hB'⟩:=hB;obtain ⟨o,v,ho,hy,h'⟩:=h;refine wpTill_first ho (Region.noSelect_spec hs) (fun c a w hq=>by
   cases hd:o.dst with
   | none=>rw [hd] at hq;exact hq
   | some d=>rw [hd] at hq;exact hQ _ c a w hq) h0 (.inl fun _=>trivial) _ _ _ _ (Region.free_spec ho hf) (by simpa using hr) (.inl fun _=>trivial) hy hS
   (wpTill_of_plan hs hQ rest _ _ _ hB' (fun hl=>hS (by rw [getD_set_ne true h0] at hl;exact hl)) h')
 | (i,1)::rest,listed,a,w,hB,hS,h=>by
  simp only [tillB,Bool.and_eq_true,bne_iff_ne,Bool.not_eq_true'] at hB;obtain ⟨⟨⟨⟨⟨h0,hw⟩,hl⟩,hr⟩,hf⟩,hB'⟩:=hB;obtain ⟨o,v,ho,hy,h'⟩:=h;refine wpTill_first ho (Region.noSelect_spec hs) (fun c a w hq=>by
   cases hd:o.dst with
   | none=>rw [hd] at hq;exact hq
   | some d=>rw [hd] at hq;exact hQ _ c a w hq) h0 (.inr ⟨fun _ h=>h,hw⟩) _ _ _ _ (Region.free_spec ho hf) (by simpa using hr) (.inr hl) hy hS
   (wpTill_of_plan hs hQ rest _ _ _ hB' (fun hl=>hS (by rw [getD_set_ne true h0] at hl;exact hl)) h')
 | (i,n+2)::rest,listed,a,w,hB,hS,h=>by
  simp only [tillB,Bool.and_eq_true,beq_iff_eq] at hB;obtain ⟨hr,hB'⟩:=hB;refine ⟨fun h0=>(by rw [hr] at h0;cases h0),fun j hj=>?_⟩;rw [hr] at hj;have:j=i:=by simpa using hj
  subst this;have hjr:j∈Region.ready md ops listed:=by rw [hr];simp
  refine wpOp_mono (fun a' w' h'=>⟨fun hn _=>h'.1 hn,wpTill_of_plan hs hQ rest _ _ _ hB' (fun hl=>?_) h'.2⟩) h
  by_cases hj0:j=j0
  ·subst hj0;rw [listed_set (mem_ready.1 hjr).1] at hl
   cases hl
  ·exact h'.1 hj0
theorem wp_region_till {id:Nat} {a:Act} {w:World} (S:World→Prop) (j0:Nat) (plan:List (Nat×Nat)) (hm:P.follows .mixedOrders=true) (hB:planTillB ops j0 plan=true)
  (hQ:∀ (t:Array Value) c (a:Act) w,Q (.panic c) { a with tmps:=t } w→Q (.panic c) a w) (hS:S w.drew) (h:wpPlan P ops Q S j0 plan a w.drew):(Code.region id ops true).wp P Q a w:=by
 simp only [planTillB,Bool.and_eq_true,beq_iff_eq] at hB;obtain ⟨⟨h1,h2⟩,h3⟩:=hB;refine wp_region_any hm (wpAny_of_till (S:=S) (j0:=j0) _ _ _ _ ?_);rw [← h2];rw [← h2] at h3;exact wpTill_of_plan h1 hQ plan _ a w.drew h3 (fun _=>hS) h
theorem plan_done {a:Act} {w:World} (h:Q .normal a w):wpPlan P ops Q S j0 [] a w:=h
section
variable {l:List Oper} {i n:Nat} {rest:List (Nat×Nat)} {a:Act} {w:World}
theorem plan_pure (h:∀ K:Act→Prop,(∀ a,wpPlan P l.toArray Q S j0 rest a w→K a)→match l[i]? with
  | none=>False
  | some o=>if Region.wanted o (yielded l.toArray a.tmps)=true then ∃ v,(∀ w,True→(execOp a.eval o).run P w=.ok (.value v) w)∧K (a.put o.dst v) else K (a.put o.dst undef)) :
  wpPlan P l.toArray Q S j0 ((i,0)::rest) a w:=by
 have h:=h _ fun _ h=>h
 cases ho:l[i]? with
 | none=>rw [ho] at h;exact h.elim
 | some o =>
  rw [ho] at h;have h:if Region.wanted o (yielded l.toArray a.tmps)=true then _ else _:=h
  by_cases hw:Region.wanted o (yielded l.toArray a.tmps)=true
  ·rw [if_pos hw] at h;obtain ⟨v,h1,h2⟩:=h;exact ⟨o,v,by simpa using ho,.inl ⟨hw,h1⟩,h2⟩
  ·rw [if_neg hw] at h;exact ⟨o,undef,by simpa using ho,.inr ⟨by simpa using hw,rfl⟩,h⟩
theorem plan_read (h:∀ K:Act→Prop,(∀ a,wpPlan P l.toArray Q S j0 rest a w→K a)→match l[i]? with
  | none=>False
  | some o=>if Region.wanted o (yielded l.toArray a.tmps)=true then ∃ v,(∀ w,S w→(execOp a.eval o).run P w=.ok (.value v) w)∧K (a.put o.dst v) else K (a.put o.dst undef)) :
  wpPlan P l.toArray Q S j0 ((i,1)::rest) a w:=by
 have h:=h _ fun _ h=>h
 cases ho:l[i]? with
 | none=>rw [ho] at h;exact h.elim
 | some o =>
  rw [ho] at h;have h:if Region.wanted o (yielded l.toArray a.tmps)=true then _ else _:=h
  by_cases hw:Region.wanted o (yielded l.toArray a.tmps)=true
  ·rw [if_pos hw] at h;obtain ⟨v,h1,h2⟩:=h;exact ⟨o,v,by simpa using ho,.inl ⟨hw,h1⟩,h2⟩
  ·rw [if_neg hw] at h;exact ⟨o,undef,by simpa using ho,.inr ⟨by simpa using hw,rfl⟩,h⟩
theorem plan_run (h:∀ K:Act→World→Prop,(∀ a w,(i≠j0→S w)∧wpPlan P l.toArray Q S j0 rest a w→K a w)→match l[i]? with
  | none=>False
  | some o=>if Region.wanted o (yielded l.toArray a.tmps)=true then o.wp P a w K Q else K (a.put o.dst undef) w) :
  wpPlan P l.toArray Q S j0 ((i,n+2)::rest) a w:=by
 have h:=h _ fun _ _ h=>h;show wpOp P l.toArray Q i _ a w;unfold wpOp;have e:l.toArray[i]?=l[i]?:=by simp
 rw [e]
 cases ho:l[i]? with
 | none=>rw [ho] at h;exact h.elim
 | some o =>
  rw [ho] at h;have h:if Region.wanted o (yielded l.toArray a.tmps)=true then _ else _:=h;show if Region.wanted o (yielded l.toArray a.tmps)=true then _ else _
  by_cases hw:Region.wanted o (yielded l.toArray a.tmps)=true
  ·rw [if_pos hw] at h ⊢;exact .inl h
  ·rw [if_neg hw] at h ⊢;exact h
theorem plan_pT {o:Oper} (ho:l[i]?=some o) (hw:Region.wanted o (yielded l.toArray a.tmps)=true) (h:∃ v,(∀ w,True→(execOp a.eval o).run P w=.ok (.value v) w)∧wpPlan P l.toArray Q S j0 rest (a.put o.dst v) w):wpPlan P l.toArray Q S j0 ((i,0)::rest) a w :=
 plan_pure fun K hK=>by rw [ho];dsimp only;rw [if_pos hw];obtain ⟨v,hv,hk⟩:=h;exact ⟨v,hv,hK _ hk⟩
theorem plan_pF {o:Oper} (ho:l[i]?=some o) (hw:Region.wanted o (yielded l.toArray a.tmps)=false) (hk:wpPlan P l.toArray Q S j0 rest (a.put o.dst undef) w):wpPlan P l.toArray Q S j0 ((i,0)::rest) a w :=
 plan_pure fun K hK=>by rw [ho];dsimp only;rw [if_neg (ne_true_of_eq_false hw)];exact hK _ hk
theorem plan_rT {o:Oper} (ho:l[i]?=some o) (hw:Region.wanted o (yielded l.toArray a.tmps)=true) (h:∃ v,(∀ w,S w→(execOp a.eval o).run P w=.ok (.value v) w)∧wpPlan P l.toArray Q S j0 rest (a.put o.dst v) w):wpPlan P l.toArray Q S j0 ((i,1)::rest) a w :=
 plan_read fun K hK=>by rw [ho];dsimp only;rw [if_pos hw];obtain ⟨v,hv,hk⟩:=h;exact ⟨v,hv,hK _ hk⟩
theorem plan_rF {o:Oper} (ho:l[i]?=some o) (hw:Region.wanted o (yielded l.toArray a.tmps)=false) (hk:wpPlan P l.toArray Q S j0 rest (a.put o.dst undef) w):wpPlan P l.toArray Q S j0 ((i,1)::rest) a w :=
 plan_read fun K hK=>by rw [ho];dsimp only;rw [if_neg (ne_true_of_eq_false hw)];exact hK _ hk
theorem plan_pS {o:Oper} {v:Value} {a':Act} (h:wpPlan P l.toArray Q S j0 rest a' w) (ho:l[i]?=some o:=by rfl) (hw:Region.wanted o (yielded l.toArray a.tmps)=true:=by rfl)
  (hx:∀ w,True→(execOp a.eval o).run P w=.ok (.value v) w:=by intro w hSw; (try dsimp only at hSw);go_simp;try with_reducible rfl) (ha:a.put o.dst v=a':=by simp only [Act.put,zqA,zqP,zqQ];rfl):wpPlan P l.toArray Q S j0 ((i,0)::rest) a w :=
 plan_pT ho hw ⟨v,hx,by rw [ha];exact h⟩
theorem plan_pN {o:Oper} {a':Act} (h:wpPlan P l.toArray Q S j0 rest a' w) (ho:l[i]?=some o:=by rfl) (hw:Region.wanted o (yielded l.toArray a.tmps)=false:=by rfl) (ha:a.put o.dst undef=a':=by simp only [Act.put,zqA,zqP,zqQ];rfl):wpPlan P l.toArray Q S j0 ((i,0)::rest) a w :=
 plan_pF ho hw (by rw [ha];exact h)
theorem plan_rS {o:Oper} {v:Value} {a':Act} (h:wpPlan P l.toArray Q S j0 rest a' w) (ho:l[i]?=some o:=by rfl) (hw:Region.wanted o (yielded l.toArray a.tmps)=true:=by rfl)
  (hx:∀ w,S w→(execOp a.eval o).run P w=.ok (.value v) w:=by intro w hSw; (try dsimp only at hSw);go_simp;try with_reducible rfl) (ha:a.put o.dst v=a':=by simp only [Act.put,zqA,zqP,zqQ];rfl):wpPlan P l.toArray Q S j0 ((i,1)::rest) a w :=
 plan_rT ho hw ⟨v,hx,by rw [ha];exact h⟩
theorem plan_rN {o:Oper} {a':Act} (h:wpPlan P l.toArray Q S j0 rest a' w) (ho:l[i]?=some o:=by rfl) (hw:Region.wanted o (yielded l.toArray a.tmps)=false:=by rfl) (ha:a.put o.dst undef=a':=by simp only [Act.put,zqA,zqP,zqQ];rfl):wpPlan P l.toArray Q S j0 ((i,1)::rest) a w :=
 plan_rF ho hw (by rw [ha];exact h)
theorem plan_G {o:Oper} (ho:l[i]?=some o) (hw:Region.wanted o (yielded l.toArray a.tmps)=true) (h:∀ K:Act→World→Prop,(∀ a w,(i≠j0→S w)∧wpPlan P l.toArray Q S j0 rest a w→K a w)→o.wp P a w K Q):wpPlan P l.toArray Q S j0 ((i,n+2)::rest) a w :=
 plan_run fun K hK=>by rw [ho];dsimp only;rw [if_pos hw];exact h K hK
end
end
end Go.Sx
namespace Go.Proofs.YtkeommmigopnkaaGreatDoor
open Go.RowKit Go.Sx Go.Dl
instance encCk:Enc Ck 2 where
 enc:=fun x=>[.int .i64 x.1,.int .i64 x.2]
 len:=fun _=>rfl
 one:=fun x u hu=>by
  simp only [List.mem_cons,List.not_mem_nil,or_false] at hu
  rcases hu with rfl | rfl<;>rfl
 dft:=(0,0)
 pos:=by decide
instance (x:Ck):EncAt x 0 (.int .i64 x.1):=⟨rfl⟩
instance (x:Ck):EncAt x 1 (.int .i64 x.2):=⟨rfl⟩
instance (x:Ck) (n:Int):EncSet x 0 (.int .i64 n) (n,x.2):=⟨rfl,by decide⟩
instance (x:Ck) (n:Int):EncSet x 1 (.int .i64 n) (x.1,n):=⟨rfl,by decide⟩
theorem elemC:ElemT Tryz.prog 155 206 2 16 (.agg #[.int .i64 0,.int .i64 0]):=⟨by kernel_rfl,by kernel_rfl,rfl⟩
instance:ElemR Tryz.prog 155 Ck 2 encCk 206 16 (.agg #[.int .i64 0,.int .i64 0]):=⟨elemC,by decide⟩
instance (x y:Int):Cells encCk [.int .i64 x,.int .i64 y] [(x,y)]:=⟨rfl⟩
instance:Elem Tryz.prog 24 .i64 3 8 (.int .i64 0):=⟨elemI,by decide⟩
section
variable {w0 w:World} {P F F1 F2 F3:HP} {b o:Nat} {S D:List Ck} {rs:List Bool} {v:Value}
end
def putOk (S:List Ck) (id t:Int):Prop:=0≤id∧id<256∧1≤t∧t<4294967296∧¬ has S id
instance (S:List Ck) (id t:Int):Decidable (putOk S id t):=by unfold putOk;infer_instance
def putS (S:List Ck) (id t:Int):List Ck:=if putOk S id t then insS (id,t) S else S
end Go.Proofs.YtkeommmigopnkaaGreatDoor
namespace Go.Proofs.YtkeommmigopnkaaGreatDoor
open Go.RowKit Go.Sx
structure Mq where
 C:List Int
 f:Nat
 n:Nat
 room:Nat
 S:List Int
 R:List Int
 H:List Int
structure MqOk (q:Mq):Prop where
 c:q.C.length=64
 h:q.H.length=64
 f:q.f<64
 n:q.n≤q.room
 lo:1≤q.room
 hi:q.room≤64
 s:RowOk q.S
 r:RowOk q.R
 full:q.n<q.room→q.S=[]
 some:0<q.n→q.R=[]
def Mq.push (q:Mq) (v:Int):Mq:={ q with C:=q.C.set ((q.f+q.n)%64) v,n:=q.n+1 }
def zeroQ:Array Value:=#[.int .u32 0,.int .u32 0,.int .u32 0,.int .u32 0,.int .u32 0,.int .u32 0,.int .u32 0,.int .u32 0,.int .u32 0,.int .u32 0,.int .u32 0,.int .u32 0,.int .u32 0,.int .u32 0,.int .u32 0,.int .u32 0,.int .u32 0,.int .u32 0,.int .u32 0,.int .u32 0,.int .u32 0,.int .u32 0,.int .u32 0,.int .u32 0,.int .u32 0,.int .u32 0,.int .u32 0,.int .u32 0,.int .u32 0,.int .u32 0,.int .u32 0,.int .u32 0,.int .u32 0,.int .u32 0,.int .u32 0,.int .u32 0,.int .u32 0,.int .u32 0,.int .u32 0,.int .u32 0,.int .u32 0,.int .u32 0,.int .u32 0,.int .u32 0,.int .u32 0,.int .u32 0,.int .u32 0,.int .u32 0,.int .u32 0,.int .u32 0,.int .u32 0,.int .u32 0,.int .u32 0,.int .u32 0,.int .u32 0,.int .u32 0,.int .u32 0,.int .u32 0,.int .u32 0,.int .u32 0,.int .u32 0,.int .u32 0,.int .u32 0,.int .u32 0,.int .i64 0,.int .i64 0,.int .i64 0,.slice none 0 0,.slice none 0 0,.int .u32 0,.int .u32 0,.int .u32 0,.int .u32 0,.int .u32 0,.int .u32 0,.int .u32 0,.int .u32 0,.int .u32 0,.int .u32 0,.int .u32 0,.int .u32 0,.int .u32 0,.int .u32 0,.int .u32 0,.int .u32 0,.int .u32 0,.int .u32 0,.int .u32 0,.int .u32 0,.int .u32 0,.int .u32 0,.int .u32 0,.int .u32 0,.int .u32 0,.int .u32 0,.int .u32 0,.int .u32 0,.int .u32 0,.int .u32 0,.int .u32 0,.int .u32 0,.int .u32 0,.int .u32 0,.int .u32 0,.int .u32 0,.int .u32 0,.int .u32 0,.int .u32 0,.int .u32 0,.int .u32 0,.int .u32 0,.int .u32 0,.int .u32 0,.int .u32 0,.int .u32 0,.int .u32 0,.int .u32 0,.int .u32 0,.int .u32 0,.int .u32 0,.int .u32 0,.int .u32 0,.int .u32 0,.int .u32 0,.int .u32 0,.int .u32 0,.int .u32 0,.int .u32 0,.int .u32 0,.int .u32 0,.int .u32 0,.int .u32 0,.int .u32 0]
theorem zeroQueue (w:World):Sem.run Tryz.prog (zeroValue 219) w=.ok (.agg zeroQ) w:=by kernel_rfl
theorem zeroQ_size:zeroQ.size=133:=by kernel_rfl
theorem zeroQ_ne:zeroQ≠#[]:=fun h=>by have:=zeroQ_size;rw [h] at this;exact absurd this (by decide)
attribute [local simp,local go_sem] zeroQueue zeroQ_size zeroQ_ne
def Mq.sendT (lv:List Int) (q:Mq):Int:=if q.R≠[] then bestOf lv q.R else 255
def Mq.sendE (q:Mq):Int:=if q.R≠[] then 0 else if q.n=q.room then 7 else 0
def Mq.send (lv:List Int) (q:Mq) (v:Int):Mq:=if q.R≠[] then { q with R:=q.R.erase (bestOf lv q.R) } else if q.n=q.room then q else q.push v
end Go.Proofs.YtkeommmigopnkaaGreatDoor
namespace Go.Proofs.YtkeommmigopnkaaGreatDoor
open Go.RowKit Go.Sx
def Mq.waits (q:Mq) (t:Int):Prop:=t∈q.S∨t∈q.R
instance (q:Mq) (t:Int):Decidable (q.waits t):=inferInstanceAs (Decidable (_∨_))
def Mq.holdE (q:Mq) (t:Int):Int:=if q.n<q.room∨q.waits t then 1 else addE q.S t
def Mq.hold (q:Mq) (t v:Int):Mq:=if q.n<q.room∨q.waits t then q else if addOk q.S t then { q with S:=addOne q.S t,H:=q.H.set t.toNat v } else q
def Mq.await (q:Mq) (t:Int):Mq:=if 0<q.n∨q.waits t then q else { q with R:=addOne q.R t }
def Mq.cancel (q:Mq) (t:Int):Mq:=if t∈q.S then { q with S:=q.S.erase t } else { q with R:=q.R.erase t }
def Mq.pop (q:Mq):Mq:={ q with f:=(q.f+1)%64,n:=q.n-1 }
def Mq.recvV (q:Mq):Int:=if q.n=0 then 0 else q.C.getD q.f 0
def Mq.recvT (lv:List Int) (q:Mq):Int:=if q.n=0∨q.S=[] then 255 else bestOf lv q.S
def Mq.recvE (q:Mq):Int:=if q.n=0 then 8 else 0
def Mq.take (lv:List Int) (q:Mq):Mq:={ q.pop with S:=q.S.erase (bestOf lv q.S) }
def Mq.recv (lv:List Int) (q:Mq):Mq:=if q.n=0 then q else if q.S=[] then q.pop else (q.take lv).push (q.H.getD (bestOf lv q.S).toNat 0)
end Go.Proofs.YtkeommmigopnkaaGreatDoor
namespace Go.Lk
structure Lk where
 own:List Int
 now:List Int
 on:List Int
 ow:List Int
 rows:List (List Int)
def lg (l:List Int) (k:Nat):Int:=l.getD k 0
def onAt (L:Lk) (t:Nat):Int:=lg L.on t
def ownAt (L:Lk) (t:Nat):Int:=lg L.own t
def nowAt (L:Lk) (t:Nat):Int:=lg L.now t
def owAt (L:Lk) (m:Nat):Int:=lg L.ow m
def rowAt (L:Lk) (m:Nat):List Int:=L.rows.getD m []
def nx (L:Lk) (t:Nat):Nat:=(owAt L (onAt L t).toNat).toNat
inductive Reach (L:Lk) (s:Nat):Nat→Prop
 | refl:Reach L s s
 | step {t:Nat}:Reach L s t→0≤onAt L t→Reach L s (nx L t)
structure Fit (L:Lk):Prop where
 n:L.own.length≤64
 ln:L.now.length=L.own.length
 lo:L.on.length=L.own.length
 m:L.ow.length≤32
 lr:L.rows.length=L.ow.length
 ownr:∀ t,t<L.own.length→0≤ownAt L t∧ownAt L t<32
 nowr:∀ t,t<L.own.length→0≤nowAt L t∧nowAt L t<32
 onr:∀ t,t<L.own.length→onAt L t=-1∨0≤onAt L t∧onAt L t<L.ow.length∧0≤owAt L (onAt L t).toNat∧owAt L (onAt L t).toNat<L.own.length
 owr:∀ m,m<L.ow.length→owAt L m=255∨0≤owAt L m∧owAt L m<L.own.length
 row:∀ m,m<L.ow.length→(rowAt L m).Nodup∧∀ t,t∈rowAt L m↔0≤t∧t<L.own.length∧onAt L t.toNat=m
 rank:∃ rk:Nat→Nat, ∀ t,t<L.own.length→0≤onAt L t→rk (nx L t)<rk t
structure Lev (L:Lk):Prop where
 up:∀ t,t<L.own.length→nowAt L t≤ownAt L t
 edge:∀ t,t<L.own.length→0≤onAt L t→nowAt L (nx L t)≤nowAt L t
 att:∀ t,t<L.own.length→∃ s,s<L.own.length∧Reach L s t∧nowAt L t=ownAt L s
theorem Reach.trans {L:Lk} {r s t:Nat} (h1:Reach L r s) (h2:Reach L s t):Reach L r t:=by
 induction h2 with
 | refl=>exact h1
 | step _ ho ih=>exact .step ih ho
structure LevK (L:Lk) (K:Nat):Prop where
 up:∀ t,t<L.own.length→nowAt L t≤ownAt L t
 edge:∀ t,t<L.own.length→t<K→0≤onAt L t→nowAt L (nx L t)≤nowAt L t
 att:∀ t,t<L.own.length→∃ s,s<L.own.length∧Reach L s t∧nowAt L t=ownAt L s
theorem LevK.lev {L:Lk} {K:Nat} (h:LevK L K) (hK:L.own.length≤K):Lev L:=⟨h.up,fun t ht ho=>h.edge t ht (by omega) ho,h.att⟩
end Go.Lk
namespace Go.Proofs.YtkeommmigopnkaaGreatDoor
open Go.RowKit Go.Sx Go.Lk
instance (priority:=1300) (g off n cap k:Nat) (l:List Int) [h:Lt k l.length]:Cell (numsP .i64 (.slice (some ⟨g,off,none⟩) n cap) l) g (off+k) (.int .i64 (lg l k)):=Cell.nums .i64 g off n cap k l
theorem nums_upd {w0 w:World} {F:HP} {g off n cap k:Nat} {l:List Int} (hs:Sat w0 w (numsP .i64 (.slice (some ⟨g,off,none⟩) n cap) l*F)) (hk:k<l.length) (x:Int) :
  Sat w0 (w.setCell ⟨g,off+k,none⟩ (.int .i64 x)) (numsP .i64 (.slice (some ⟨g,off,none⟩) n cap) (l.set k x)*F):=by
 rcases hs.slice_out with ⟨e,_⟩ | ⟨g',off',cap',sp,e,h1,h2,hx,hsp,hs'⟩
 ·cases e
 ·simp only [Value.slice.injEq,Option.some.injEq,Addr.mk.injEq] at e;obtain ⟨⟨rfl,rfl,_⟩,rfl,rfl⟩:=e;have h3:=hs'.set (j:=k) (by rw [List.length_append,List.length_map];omega) (.int .i64 x);rw [List.set_append_left _ _ (by rw [List.length_map];exact hk),← List.map_set] at h3;have h4:=Sat.slice_in (k:=1) (n:=l.length) h3 h1 h2 (by simp) hsp;unfold numsP;rw [List.length_set];exact h4
instance (priority:=1300) (g off n cap k:Nat) (l:List Int) (x:Int) [h:Lt k l.length]:Upd (numsP .i64 (.slice (some ⟨g,off,none⟩) n cap) l) g (off+k) (.int .i64 x) (numsP .i64 (.slice (some ⟨g,off,none⟩) n cap) (l.set k x)):=⟨fun hs=>nums_upd hs h.lt x⟩
def rg (l:List (List Int)) (k:Nat):List Int:=l.getD k []
theorem lg_set {l:List Int} {k:Nat} (h:k<l.length) (x:Int) (j:Nat):lg (l.set k x) j=if j=k then x else lg l j:=by
 unfold lg
 by_cases e:j=k
 ·subst e;rw [if_pos rfl];simp [List.getD,h]
 ·rw [if_neg e];simp [List.getD,List.getElem?_set_ne (Ne.symm e)]
theorem rg_set {l:List (List Int)} {k:Nat} (h:k<l.length) (x:List Int) (j:Nat):rg (l.set k x) j=if j=k then x else rg l j:=by
 unfold rg
 by_cases e:j=k
 ·subst e;rw [if_pos rfl];simp [List.getD,h]
 ·rw [if_neg e];simp [List.getD,List.getElem?_set_ne (Ne.symm e)]
section
variable (g o i:Nat) (xs:List Int) (rs:List (List Int)) (x:Int)
end
theorem reach_cons {L:Lk} {s t:Nat} (ho:0≤onAt L s) (h:Go.Lk.Reach L (nx L s) t):Go.Lk.Reach L s t:=by
 induction h with
 | refl=>exact .step .refl ho
 | step _ ho' ih=>exact .step ih ho'
theorem retB {x y:Bool} (h:x=y):Ending.returned (.bool x)=Ending.returned (.bool y):=by rw [h]
end Go.Proofs.YtkeommmigopnkaaGreatDoor
namespace Go.Lk
open Go.Proofs.YtkeommmigopnkaaGreatDoor (lg_set rg rg_set reach_cons)
def takeL (L:Lk) (m t:Nat):Lk:={ L with ow:=L.ow.set m t }
def waitL (L:Lk) (m t:Nat):Lk:={ L with on:=L.on.set t m,rows:=L.rows.set m (rg L.rows m++[(t:Int)]) }
end Go.Lk
namespace Go.Lk
open Go.Proofs.YtkeommmigopnkaaGreatDoor (lg_set rg rg_set)
def freeL (L:Lk) (m:Nat):Lk:={ L with ow:=L.ow.set m 255 }
def giveL (L:Lk) (m w:Nat):Lk:={ L with ow:=L.ow.set m w,on:=L.on.set w (-1),rows:=L.rows.set m ((rg L.rows m).erase w) }
end Go.Lk
namespace Go.Sx
open Go.RowKit
inductive Plan where
 | done:Plan
 | read (i:Nat) (p:Plan):Plan
 | run (i:Nat) (p:Plan):Plan
 | alt (i:Nat) (p:Plan) (j:Nat) (q:Plan):Plan
 | alt3 (i:Nat) (p:Plan) (j:Nat) (q:Plan) (k:Nat) (r:Plan):Plan
def Plan.size:Plan→Nat
 | .done=>0
 | .read _ p=>p.size+1
 | .run _ p=>p.size+1
 | .alt _ p _ _=>p.size+1
 | .alt3 _ p _ _ _ _=>p.size+1
section
variable {P:Program} {ops:Array Oper} {Q:Exit→Act→World→Prop} {md:Region.Mode} {S:World→Prop}
section
variable {l:List Oper} {i j k:Nat} {p q r:Plan} {a:Act} {w:World}
end
end
end Go.Sx
namespace Go.Proofs.YtkeommmigopnkaaGreatDoor
open Go.RowKit Go.Sx Go.Lk
instance:Elem Tryz.prog 24 .i64 3 8 (.int .i64 0):=⟨elemI,by decide⟩
def heldK (ow:List Int) (t:Int) (k:Nat):List Int:=((List.range k).filter fun i=>lg ow i==t).map fun (i:Nat)=>(i:Int)
def heldOf (L:Lk) (t:Int):List Int:=if 0≤t∧t<L.own.length then heldK L.ow t L.ow.length else []
open Classical in
/-- What Lock answers,and makes (the levels aside). -/
noncomputable def lockR (L:Lk) (t m:Int):Bool×Int×Lk :=
 if ¬ (0≤t∧t<L.own.length) then (false,1,L)
 else if 0≤lg L.on t.toNat then (false,1,L)
 else if ¬ (0≤m∧m<L.ow.length) then (false,15,L)
 else if lg L.ow m.toNat=t then (false,10,L)
 else if lg L.ow m.toNat=255 then (true,0,takeL L m.toNat t.toNat)
 else if Go.Lk.Reach L (lg L.ow m.toNat).toNat t.toNat then (false,11,L)
 else (false,0,waitL L m.toNat t.toNat)
def unlockR (L:Lk) (t m:Int):Int×Int×Lk :=
 if ¬ (0≤t∧t<L.own.length) then (255,1,L)
 else if ¬ (0≤m∧m<L.ow.length) then (255,15,L)
 else if lg L.ow m.toNat≠t then (255,10,L)
 else if rg L.rows m.toNat=[] then (255,0,freeL L m.toNat)
 else (bestOf L.now (rg L.rows m.toNat),0,giveL L m.toNat (bestOf L.now (rg L.rows m.toNat)).toNat)
def wNow (L:Lk) (now:List Int):Lk:={ L with now:=now }
structure Good (L:Lk):Prop where
 fit:Fit L
 lev:Lev L
end Go.Proofs.YtkeommmigopnkaaGreatDoor
namespace Go.Lk
open Go.Proofs.YtkeommmigopnkaaGreatDoor (lg_set rg rg_set reach_cons wNow)
def edgeStep (o:Int) (now:List Int) (w:Int):List Int:=if lg now w.toNat<lg now o.toNat then now.set o.toNat (lg now w.toNat) else now
def rowPass (o:Int) (now r:List Int):List Int:=r.foldl (edgeStep o) now
def passM (ow:List Int) (rows:List (List Int)) (now:List Int):Nat→List Int
 | 0=>now
 | m+1=>rowPass (lg ow m) (passM ow rows now m) (rg rows m)
def passes (ow:List Int) (rows:List (List Int)) (own:List Int):Nat→List Int
 | 0=>own
 | k+1=>passM ow rows (passes ow rows own k) ow.length
def refLv (own ow:List Int) (rows:List (List Int)):List Int:=passes ow rows own own.length
def Falls (L:Lk) (a b:List Int):Prop:=∀ t,t<L.own.length→lg b t≤lg a t
theorem Falls.refl (L:Lk) (a:List Int):Falls L a a:=fun _ _=>Int.le_refl _
theorem Falls.trans {L:Lk} {a b c:List Int} (h:Falls L a b) (k:Falls L b c):Falls L a c:=fun t ht=>Int.le_trans (k t ht) (h t ht)
def below (rk:Nat→Nat) (n t:Nat):Nat:=(List.range n).countP fun x=>decide (rk x<rk t)
end Go.Lk
