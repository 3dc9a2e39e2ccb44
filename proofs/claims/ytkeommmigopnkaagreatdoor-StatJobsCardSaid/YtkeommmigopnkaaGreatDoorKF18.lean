/-
  Parts of the proof: StU StV StW StX StY StZ StZc StPa.
-/
import Derived.Test.YtkeommmigopnkaaGreatDoorKF5
import Derived.Test.YtkeommmigopnkaaGreatDoorKF6
import Derived.Test.YtkeommmigopnkaaGreatDoorKF9
import Derived.Test.YtkeommmigopnkaaGreatDoorKF17
set_option linter.unusedVariables false
set_option linter.unusedSimpArgs false
set_option maxHeartbeats 32000000
set_option maxRecDepth 100000
namespace Go.Proofs.YtkeommmigopnkaaGreatDoor
open Go.RowKit Go.Sx Go.Dl Go.Lk Go.Rq Go.Au Go.Hi Go.St
def Border (l:List Ev) (n:Nat):Prop:=n=0∨n=l.length∨(evg l n).co≠(evg l (n-1)).co
structure JbLe (j k:Jb):Prop where
 task:k.task=j.task
 num:k.num=j.num
 rel:k.rel=j.rel
 bound:k.bound=j.bound
 low:j.lower≤k.lower
 fin:j.ended=true→k=j
theorem JbLe.refl (j:Jb):JbLe j j:=⟨rfl,rfl,rfl,rfl,Int.le_refl _,fun _=>rfl⟩
theorem JbLe.trans {i j k:Jb} (h:JbLe i j) (g:JbLe j k):JbLe i k :=
 ⟨g.task.trans h.task,g.num.trans h.num,g.rel.trans h.rel,g.bound.trans h.bound,Int.le_trans h.low g.low,fun e=>by have:=h.fin e;subst this;exact g.fin e⟩
def JL (J K:List Jb):Prop:=J.length≤K.length∧∀ k,k<J.length→JbLe (jg J k) (jg K k)
theorem JL.refl (J:List Jb):JL J J:=⟨Nat.le_refl _,fun _ _=>.refl _⟩
theorem JL.trans {J K L:List Jb} (h:JL J K) (g:JL K L):JL J L:=⟨Nat.le_trans h.1 g.1,fun k hk=>(h.2 k hk).trans (g.2 k (Nat.lt_of_lt_of_le hk h.1))⟩
theorem jg_set' {J:List Jb} {i k:Nat} (hi:i<J.length) (j:Jb):jg (J.set i j) k=if k=i then j else jg J k:=by
 unfold jg
 by_cases h:k=i
 ·subst h;rw [if_pos rfl];simp [List.getD,hi]
 ·rw [if_neg h];simp [List.getD,List.getElem?_set_ne (Ne.symm h)]
theorem JL.set {J:List Jb} {i:Nat} (hi:i<J.length) {j:Jb} (h:JbLe (jg J i) j):JL J (J.set i j):=by
 refine ⟨by simp,fun k hk=>?_⟩;rw [jg_set' hi]
 by_cases e:k=i
 ·rw [if_pos e,e];exact h
 ·rw [if_neg e];exact .refl _
theorem JL.snoc (J:List Jb) (j:Jb):JL J (J++[j]):=by
 refine ⟨by simp,fun k hk=>?_⟩;have:jg (J++[j]) k=jg J k:=by
  unfold jg;rw [List.getD_eq_getElem?_getD,List.getD_eq_getElem?_getD,List.getElem?_append_left hk]
 rw [this];exact .refl _
def OpJ (ts:List Sk) (J:List Jb):Prop:=∀ t,t<ts.length→0<(sg ts t).opn→(sg ts t).opn≤J.length∧(jg J ((sg ts t).opn-1)).ended=false∧(jg J ((sg ts t).opn-1)).task=t
def LoJ (M:Int) (J:List Jb):Prop:=∀ k,k<J.length→0≤(jg J k).lower∧(jg J k).lower≤M
theorem lowF_snoc (ts:List Sk) (lv n:Int) (k:Nat) (J:List Jb):lowF ts lv n (k+1) J=low1 ts lv n (lowF ts lv n k J) k:=by
 unfold lowF;rw [List.range_succ,List.foldl_append];rfl
theorem lowF_inv {ts:List Sk} {lv n M:Int} {J:List Jb} (hn:0≤n) (hop:OpJ ts J) (hlo:LoJ M J) (hM:M+n<18446744073709551616):∀ k,k≤ts.length →
  (lowF ts lv n k J).length=J.length∧∀ x,x<J.length→JbLe (jg J x) (jg (lowF ts lv n k J) x)∧(jg (lowF ts lv n k J) x).lower≤(jg J x).lower+n∧(jg (lowF ts lv n k J) x).ended=(jg J x).ended∧((k:Int)≤(jg J x).task→jg (lowF ts lv n k J) x=jg J x)
 | 0,_=>⟨rfl,fun x hx=>⟨.refl _,by show (jg J x).lower≤(jg J x).lower+n;omega,rfl,fun _=>rfl⟩⟩
 | k+1,hk=>by
  obtain ⟨h1,h2⟩:=lowF_inv (lv:=lv) hn hop hlo hM k (by omega);rw [lowF_snoc];unfold low1
  by_cases hc:0<(sg ts k).opn∧(sg ts k).lev<lv
  ·rw [if_pos hc];obtain ⟨o1,o2,o3⟩:=hop k (by omega) hc.1;have hi:(sg ts k).opn-1<J.length:=by omega
   generalize (sg ts k).opn-1=i at *;have e:=(h2 i hi).2.2.2 (by rw [o3];exact Int.le_refl _);have hl:=hlo i hi;have hw:w64 ((jg J i).lower+n)=(jg J i).lower+n:=Int.emod_eq_of_lt (by omega) (by omega);refine ⟨by rw [List.length_set];exact h1,fun x hx=>?_⟩;rw [jg_set' (by rw [h1];exact hi)]
   by_cases hx1:x=i
   ·subst hx1;rw [if_pos rfl,e,hw];refine ⟨⟨rfl,rfl,rfl,rfl,?_,fun h=>by rw [o2] at h;cases h⟩,Int.le_refl _,rfl,fun h=>?_⟩
    ·show (jg J x).lower≤(jg J x).lower+n;omega
    ·rw [o3] at h;omega
   ·rw [if_neg hx1];obtain ⟨g1,g2,g3,g4⟩:=h2 x hx;exact ⟨g1,g2,g3,fun h=>g4 (by omega)⟩
  ·rw [if_neg hc];refine ⟨h1,fun x hx=>?_⟩;obtain ⟨g1,g2,g3,g4⟩:=h2 x hx;exact ⟨g1,g2,g3,fun h=>g4 (by omega)⟩
theorem untF_snoc (ts:List Sk) (who:Int) (k:Nat) (J:List Jb):untF ts who (k+1) J=unt1 ts who (untF ts who k J) k:=by
 unfold untF;rw [List.range_succ,List.foldl_append];rfl
theorem untF_inv {ts:List Sk} {who:Int} {J:List Jb} (hop:OpJ ts J):∀ k,k≤ts.length →
  (untF ts who k J).length=J.length∧∀ x,x<J.length→JbLe (jg J x) (jg (untF ts who k J) x)∧(jg (untF ts who k J) x).lower=(jg J x).lower∧(jg (untF ts who k J) x).ended=(jg J x).ended
 | 0,_=>⟨rfl,fun x hx=>⟨.refl _,rfl,rfl⟩⟩
 | k+1,hk=>by
  obtain ⟨h1,h2⟩:=untF_inv (who:=who) hop k (by omega);rw [untF_snoc];unfold unt1
  by_cases hc:0<(sg ts k).opn∧(who=255∨who=k)
  ·rw [if_pos hc];obtain ⟨o1,o2,o3⟩:=hop k (by omega) hc.1;have hi:(sg ts k).opn-1<J.length:=by omega
   generalize (sg ts k).opn-1=i at *;refine ⟨by rw [List.length_set];exact h1,fun x hx=>?_⟩;rw [jg_set' (by rw [h1];exact hi)]
   by_cases hx1:x=i
   ·subst hx1;rw [if_pos rfl];obtain ⟨g1,g2,g3⟩:=h2 x hx;exact ⟨⟨g1.task,g1.num,g1.rel,g1.bound,g1.low,fun h=>by rw [o2] at h;cases h⟩,g2,g3⟩
   ·rw [if_neg hx1];exact h2 x hx
  ·rw [if_neg hc];exact ⟨h1,h2⟩
structure Gr (n:Nat) (M:Int) (B:Bk):Prop where
 len:B.ts.length=n
 op:OpJ B.ts B.jb
 lo:LoJ M B.jb
 tk:∀ t,t<n→(0≤(sg B.ts t).len∧(sg B.ts t).len≤M)∧(0≤(sg B.ts t).lng∧(sg B.ts t).lng≤M)
 bd:∀ k,k<B.jb.length→(jg B.jb k).bound=0
structure Up (B C:Bk):Prop where
 jobs:JL B.jb C.jb
 len:C.ts.length=B.ts.length
 tk:∀ t,t<B.ts.length→(sg C.ts t).lev=(sg B.ts t).lev∧(sg B.ts t).lng≤(sg C.ts t).lng
theorem Up.refl (B:Bk):Up B B:=⟨.refl _,rfl,fun t _=>⟨rfl,Int.le_refl _⟩⟩
theorem Up.trans {B C D:Bk} (h:Up B C) (g:Up C D):Up B D :=
 ⟨h.jobs.trans g.jobs,g.len.trans h.len,fun t ht=>by
  have a:=h.tk t ht;have b:=g.tk t (by rw [h.len];exact ht);exact ⟨b.1.trans a.1,Int.le_trans a.2 b.2⟩⟩
theorem Gr.up {n:Nat} {M N:Int} {B:Bk} (h:Gr n M B) (hm:M≤N):Gr n N B :=
 ⟨h.len,h.op,fun k hk=>⟨(h.lo k hk).1,Int.le_trans (h.lo k hk).2 hm⟩,fun t ht=>by have:=h.tk t ht;omega,h.bd⟩
theorem sg_set' {ts:List Sk} {i k:Nat} (hi:i<ts.length) (x:Sk):sg (ts.set i x) k=if k=i then x else sg ts k:=by
 unfold sg
 by_cases h:k=i
 ·subst h;rw [if_pos rfl];simp [List.getD,hi]
 ·rw [if_neg h];simp [List.getD,List.getElem?_set_ne (Ne.symm h)]
theorem Gr.setS {n:Nat} {M:Int} {B:Bk} (h:Gr n M B) {t:Nat} (ht:t<n) {x:Sk} (ho:x.opn=(sg B.ts t).opn) (hl:0≤x.len∧x.len≤M) (hg:0≤x.lng∧x.lng≤M):Gr n M (B.setS t x):=by
 have hi:t<B.ts.length:=by rw [h.len];exact ht
 refine ⟨by show (B.ts.set t x).length=n;rw [List.length_set];exact h.len,fun u hu hp=>?_,h.lo,fun u hu=>?_,h.bd⟩
 ·have hu:u<(B.ts.set t x).length:=hu;rw [List.length_set] at hu;have e:(sg (B.setS t x).ts u).opn=(sg B.ts u).opn:=by
   show (sg (B.ts.set t x) u).opn=_;rw [sg_set' hi]
   by_cases q:u=t
   ·rw [if_pos q,q,ho]
   ·rw [if_neg q]
  rw [e] at hp ⊢;exact h.op u hu hp
 ·show (0≤(sg (B.ts.set t x) u).len∧(sg (B.ts.set t x) u).len≤M)∧(0≤(sg (B.ts.set t x) u).lng∧(sg (B.ts.set t x) u).lng≤M);rw [sg_set' hi]
  by_cases q:u=t
  ·rw [if_pos q];exact ⟨hl,hg⟩
  ·rw [if_neg q];exact h.tk u hu
theorem Up.setS {B:Bk} {t:Nat} (ht:t<B.ts.length) {x:Sk} (hv:x.lev=(sg B.ts t).lev) (hg:(sg B.ts t).lng≤x.lng):Up B (B.setS t x):=by
 refine ⟨.refl _,by show (B.ts.set t x).length=_;rw [List.length_set],fun u hu=>?_⟩;show (sg (B.ts.set t x) u).lev=_∧_≤(sg (B.ts.set t x) u).lng;rw [sg_set' ht]
 by_cases q:u=t
 ·rw [if_pos q,q];exact ⟨hv,hg⟩
 ·rw [if_neg q];exact ⟨rfl,Int.le_refl _⟩
theorem Gr.wJ {n:Nat} {M N:Int} {B:Bk} (h:Gr n M B) (hm:M≤N) {J:List Jb} (hl:J.length=B.jb.length) (hj:∀ x,x<B.jb.length→JbLe (jg B.jb x) (jg J x)∧(jg J x).lower≤N∧(jg J x).ended=(jg B.jb x).ended):Gr n N (B.wJ J)∧Up B (B.wJ J):=by
 have h2:=h.up hm;refine ⟨⟨h2.len,fun t ht hp=>?_,fun k hk=>?_,h2.tk,fun k hk=>?_⟩,⟨⟨by show B.jb.length≤J.length;omega,fun k hk=>(hj k hk).1⟩,rfl,fun t _=>⟨rfl,Int.le_refl _⟩⟩⟩
 ·obtain ⟨o1,o2,o3⟩:=h.op t ht hp;have hp':0<(sg B.ts t).opn:=hp;have q:=hj ((sg B.ts t).opn-1) (by omega);show (sg B.ts t).opn≤J.length∧(jg J ((sg B.ts t).opn-1)).ended=false∧(jg J ((sg B.ts t).opn-1)).task=t;exact ⟨by omega,q.2.2.trans o2,q.1.task.trans o3⟩
 ·have hk':k<B.jb.length:=by have:k<J.length:=hk;omega
  have q:=hj k hk';have:=h.lo k hk';exact ⟨Int.le_trans this.1 q.1.low,q.2.1⟩
 ·have hk':k<B.jb.length:=by have:k<J.length:=hk;omega
  exact (hj k hk').1.bound.trans (h.bd k hk')
theorem Gr.ran {n:Nat} {M m:Int} {B:Bk} (h:Gr n M B) (hm:0≤m) (hM:M+m<18446744073709551616) {who:Int} (hw:who=255∨0≤who∧who<n) (inn:Bool):Gr n (M+m) (B.ran who m inn)∧Up B (B.ran who m inn):=by
 unfold Bk.ran
 split
 ·exact ⟨h.up (by omega),.refl _⟩
 ·rename_i hc
  obtain ⟨h0,h1⟩:=hw.resolve_left (fun e=>hc (.inl e));have ht:who.toNat<n:=by omega
  have hi:who.toNat<B.ts.length:=by rw [h.len];exact ht
  have q:=h.tk _ ht;have hwl:w64 ((B.t who.toNat).len+m)=(sg B.ts who.toNat).len+m:=Int.emod_eq_of_lt (by show 0≤(sg B.ts who.toNat).len+m;omega) (by show (sg B.ts who.toNat).len+m<_;omega);have hx:((B.t who.toNat).go m inn).opn=(sg B.ts who.toNat).opn∧((B.t who.toNat).go m inn).lev=(sg B.ts who.toNat).lev∧(0≤((B.t who.toNat).go m inn).len∧((B.t who.toNat).go m inn).len≤M+m)∧((sg B.ts who.toNat).lng≤((B.t who.toNat).go m inn).lng∧((B.t who.toNat).go m inn).lng≤M+m):=by
   unfold Sk.go
   cases inn with
   | true =>
    rw [if_pos rfl,hwl];refine ⟨rfl,rfl,?_,?_⟩
    ·show 0≤(sg B.ts who.toNat).len+m∧(sg B.ts who.toNat).len+m≤M+m;omega
    ·show (sg B.ts who.toNat).lng≤max (sg B.ts who.toNat).lng ((sg B.ts who.toNat).len+m)∧max (sg B.ts who.toNat).lng ((sg B.ts who.toNat).len+m)≤M+m;omega
   | false =>
    rw [if_neg (by decide)];refine ⟨rfl,rfl,?_,?_⟩
    ·show 0≤(sg B.ts who.toNat).len∧(sg B.ts who.toNat).len≤M+m;omega
    ·show (sg B.ts who.toNat).lng≤(sg B.ts who.toNat).lng∧(sg B.ts who.toNat).lng≤M+m;omega
  generalize (B.t who.toNat).go m inn=x at hx;obtain ⟨x1,x2,x3,x4,x5⟩:=hx;dsimp only;have g1:Gr n (M+m) (B.setS who.toNat x):=(h.up (show M≤M+m by omega)).setS ht x1 x3 ⟨by omega,x5⟩;have g1':OpJ (B.setS who.toNat x).ts (B.setS who.toNat x).jb:=g1.op;have u1:Up B (B.setS who.toNat x):=Up.setS hi x2 x4;have key:=lowF_inv (lv:=((B.setS who.toNat x).t who.toNat).lev) (n:=m) (M:=M) hm g1' (show LoJ M (B.setS who.toNat x).jb from h.lo) hM (B.setS who.toNat x).ts.length (Nat.le_refl _);obtain ⟨k1,k2⟩:=key;obtain ⟨g2,u2⟩:=g1.wJ (Int.le_refl _) k1 (fun y hy=>⟨(k2 y hy).1,by have a:=(k2 y hy).2.1;have b:=(h.lo y hy).2;have c:(jg (B.setS who.toNat x).jb y).lower=(jg B.jb y).lower:=rfl;omega,(k2 y hy).2.2.1⟩);exact ⟨g2,u1.trans u2⟩
theorem Gr.untidy {n:Nat} {M:Int} {B:Bk} (h:Gr n M B) (who:Int):Gr n M (B.untidy who)∧Up B (B.untidy who):=by
 obtain ⟨k1,k2⟩:=untF_inv (who:=who) h.op B.ts.length (Nat.le_refl _);exact h.wJ (Int.le_refl _) k1 fun y hy=>⟨(k2 y hy).1,by rw [(k2 y hy).2.1];exact (h.lo y hy).2,(k2 y hy).2.2⟩
theorem Gr.same {n:Nat} {M:Int} {B C:Bk} (h:Gr n M B) (h1:C.ts=B.ts) (h2:C.jb=B.jb):Gr n M C∧Up B C:=by
 obtain ⟨ts,ow,run,ent,jb⟩:=B;obtain ⟨ts',ow',run',ent',jb'⟩:=C;obtain rfl:ts'=ts:=h1;obtain rfl:jb'=jb:=h2;exact ⟨⟨h.len,h.op,h.lo,h.tk,h.bd⟩,⟨.refl _,rfl,fun _ _=>⟨rfl,Int.le_refl _⟩⟩⟩
theorem Gr.put {n:Nat} {M:Int} {B:Bk} (h:Gr n M B) (t:Nat) {x:Sk} (ho:x.opn=(sg B.ts t).opn) (hv:x.lev=(sg B.ts t).lev) (hl:0≤x.len∧x.len≤M) (hg:(sg B.ts t).lng≤x.lng∧x.lng≤M):Gr n M (B.setS t x)∧Up B (B.setS t x):=by
 by_cases ht:t<n
 ·have q:=(h.tk t ht).2;exact ⟨h.setS ht ho hl ⟨by omega,hg.2⟩,Up.setS (by rw [h.len];exact ht) hv hg.1⟩
 ·refine h.same ?_ rfl;show B.ts.set t x=B.ts;exact List.set_eq_of_length_le (by rw [h.len];omega)
theorem Gr.tk' {n:Nat} {M:Int} {B:Bk} (h:Gr n M B) (hM:0≤M) (t:Nat):(0≤(sg B.ts t).len∧(sg B.ts t).len≤M)∧(0≤(sg B.ts t).lng∧(sg B.ts t).lng≤M):=by
 by_cases ht:t<n
 ·exact h.tk t ht
 ·have e:sg B.ts t=sk0:=by
   unfold sg;rw [List.getD_eq_getElem?_getD,List.getElem?_eq_none (by rw [h.len];omega)];rfl
  rw [e];exact ⟨⟨Int.le_refl 0,hM⟩,⟨Int.le_refl 0,hM⟩⟩
theorem Gr.owner {n:Nat} {M:Int} {B:Bk} (h:Gr n M B) (hM:0≤M) (k:Int) (a b:Nat):Gr n M (B.owner k a b)∧Up B (B.owner k a b):=by
 unfold Bk.owner;have q:=h.tk' hM a
 split
 ·obtain ⟨g1,u1⟩:=h.same (C:=B.wO (mput B.ow b none)) rfl rfl;obtain ⟨g2,u2⟩:=g1.put a (x:={ B.t a with owns:=(B.t a).owns-1 }) rfl rfl q.1 ⟨Int.le_refl _,q.2.2⟩;exact ⟨g2,u1.trans u2⟩
 ·obtain ⟨g1,u1⟩:=h.same (C:=B.wO (mput B.ow b (some a))) rfl rfl
  split
  ·obtain ⟨g2,u2⟩:=g1.put a (x:={ B.t a with owns:=1,len:=0,secs:=(B.t a).secs+1 }) rfl rfl ⟨Int.le_refl 0,hM⟩ ⟨Int.le_refl _,q.2.2⟩;exact ⟨g2,u1.trans u2⟩
  ·obtain ⟨g2,u2⟩:=g1.put a (x:={ B.t a with owns:=(B.t a).owns+1 }) rfl rfl q.1 ⟨Int.le_refl _,q.2.2⟩;exact ⟨g2,u1.trans u2⟩
theorem jg_app {J:List Jb} {k:Nat} (hk:k<J.length) (j:Jb):jg (J++[j]) k=jg J k:=by
 unfold jg;rw [List.getD_eq_getElem?_getD,List.getD_eq_getElem?_getD,List.getElem?_append_left hk]
theorem jg_last (J:List Jb) (j:Jb):jg (J++[j]) J.length=j:=by
 unfold jg;rw [List.getD_eq_getElem?_getD,List.getElem?_append_right (Nat.le_refl _),Nat.sub_self];rfl
theorem Gr.fin {n:Nat} {M:Int} {B:Bk} (h:Gr n M B) (hM:0≤M) {a i:Nat} (ha:a<B.ts.length) (hi:i<B.jb.length) (o3:(jg B.jb i).task=a) {j:Jb} (hle:JbLe (jg B.jb i) j) (hlow:j.lower=(jg B.jb i).lower) {x:Sk} (x1:x.opn=0∧x.lev=(sg B.ts a).lev∧x.len=(sg B.ts a).len∧x.lng=(sg B.ts a).lng):Gr n M ((B.wJ (B.jb.set i j)).setS a x)∧Up B ((B.wJ (B.jb.set i j)).setS a x):=by
 have q:=h.tk' hM a;refine ⟨⟨?_,fun t ht hp=>?_,fun k hk=>?_,fun t ht=>?_,fun k hk=>?_⟩,⟨JL.set hi hle,?_,fun t ht=>?_⟩⟩
 ·show (B.ts.set a x).length=n;rw [List.length_set];exact h.len
 ·have ht:t<(B.ts.set a x).length:=ht;rw [List.length_set] at ht;have hp:0<(sg (B.ts.set a x) t).opn:=hp;show (sg (B.ts.set a x) t).opn≤(B.jb.set i j).length∧(jg (B.jb.set i j) ((sg (B.ts.set a x) t).opn-1)).ended=false∧(jg (B.jb.set i j) ((sg (B.ts.set a x) t).opn-1)).task=t;rw [sg_set' ha] at hp ⊢
  by_cases q:t=a
  ·rw [if_pos q,x1.1] at hp;omega
  ·rw [if_neg q] at hp ⊢;obtain ⟨p1,p2,p3⟩:=h.op t ht hp;rw [jg_set' hi,List.length_set]
   by_cases z:(sg B.ts t).opn-1=i
   ·rw [z,o3] at p3;omega
   ·rw [if_neg z];exact ⟨p1,p2,p3⟩
 ·have hk:k<(B.jb.set i j).length:=hk;rw [List.length_set] at hk;show 0≤(jg (B.jb.set i j) k).lower∧(jg (B.jb.set i j) k).lower≤M;rw [jg_set' hi]
  by_cases z:k=i
  ·rw [if_pos z,hlow];exact h.lo i hi
  ·rw [if_neg z];exact h.lo k hk
 ·show (0≤(sg (B.ts.set a x) t).len∧(sg (B.ts.set a x) t).len≤M)∧(0≤(sg (B.ts.set a x) t).lng∧(sg (B.ts.set a x) t).lng≤M);rw [sg_set' ha]
  by_cases z:t=a
  ·rw [if_pos z,x1.2.2.1,x1.2.2.2];exact q
  ·rw [if_neg z];exact h.tk t ht
 ·have hk:k<(B.jb.set i j).length:=hk;rw [List.length_set] at hk;show (jg (B.jb.set i j) k).bound=0;rw [jg_set' hi]
  by_cases z:k=i
  ·rw [if_pos z,hle.bound];exact h.bd i hi
  ·rw [if_neg z];exact h.bd k hk
 ·show (B.ts.set a x).length=B.ts.length;rw [List.length_set]
 ·show (sg (B.ts.set a x) t).lev=_∧_≤(sg (B.ts.set a x) t).lng;rw [sg_set' ha]
  by_cases z:t=a
  ·rw [if_pos z,z];exact ⟨x1.2.1,by rw [x1.2.2.2];exact Int.le_refl _⟩
  ·rw [if_neg z];exact ⟨rfl,Int.le_refl _⟩
theorem Gr.job {n:Nat} {M:Int} {B:Bk} (h:Gr n M B) (hM:0≤M) (e:Ev) (h8:e.k=8→0<(B.t e.a).opn):Gr n M (B.job e)∧Up B (B.job e):=by
 have q:=h.tk' hM e.a;unfold Bk.job
 by_cases hk:e.k=8
 ·rw [if_pos hk];have hp:0<(sg B.ts e.a).opn:=h8 hk;have ha:e.a<B.ts.length:=by
   refine Nat.lt_of_not_le fun hle=>?_;have:sg B.ts e.a=sk0:=by unfold sg;rw [List.getD_eq_getElem?_getD,List.getElem?_eq_none hle];rfl
   rw [this] at hp;exact absurd hp (by decide)
  obtain ⟨o1,o2,o3⟩:=h.op e.a ha hp;have hi:(sg B.ts e.a).opn-1<B.jb.length:=by omega
  refine h.fin hM ha hi o3 ?_ ?_ ?_
  ·exact ⟨rfl,rfl,rfl,rfl,Int.le_refl _,fun hh=>by rw [o2] at hh;cases hh⟩
  ·rfl
  ·exact ⟨rfl,rfl,rfl,rfl⟩
 ·rw [if_neg hk];generalize hj:(⟨e.a,e.v,e.co,0,false,false,0,0,true⟩:Jb)=j;have j1:j.task=e.a∧j.ended=false∧j.lower=0∧j.bound=0:=by rw [← hj];exact ⟨rfl,rfl,rfl,rfl⟩
  clear hj;have g1:Gr n M (B.wJ (B.jb++[j])):=by
   refine ⟨h.len,fun t ht hp=>?_,fun k hk=>?_,h.tk,fun k hk=>?_⟩
   ·obtain ⟨p1,p2,p3⟩:=h.op t ht hp;have hp':0<(sg B.ts t).opn:=hp;show (sg B.ts t).opn≤(B.jb++[j]).length∧(jg (B.jb++[j]) ((sg B.ts t).opn-1)).ended=false∧(jg (B.jb++[j]) ((sg B.ts t).opn-1)).task=t;rw [jg_app (by omega)];exact ⟨by simp;omega,p2,p3⟩
   ·have hk:k<(B.jb++[j]).length:=hk;show 0≤(jg (B.jb++[j]) k).lower∧(jg (B.jb++[j]) k).lower≤M
    by_cases z:k<B.jb.length
    ·rw [jg_app z];exact h.lo k z
    ·obtain rfl:k=B.jb.length:=by simp at hk;omega
     rw [jg_last,j1.2.2.1];exact ⟨Int.le_refl 0,hM⟩
   ·have hk:k<(B.jb++[j]).length:=hk;show (jg (B.jb++[j]) k).bound=0
    by_cases z:k<B.jb.length
    ·rw [jg_app z];exact h.bd k z
    ·obtain rfl:k=B.jb.length:=by simp at hk;omega
     rw [jg_last];exact j1.2.2.2
  have u1:Up B (B.wJ (B.jb++[j])):=⟨.snoc _ _,rfl,fun _ _=>⟨rfl,Int.le_refl _⟩⟩
  by_cases ha:e.a<B.ts.length
  ·refine ⟨⟨?_,fun t ht hp=>?_,g1.lo,fun t ht=>?_,g1.bd⟩,u1.trans (Up.setS (B:=B.wJ (B.jb++[j])) ha rfl (Int.le_refl _))⟩
   ·show (B.ts.set e.a _).length=n;rw [List.length_set];exact h.len
   ·have ht:t<(B.ts.set e.a { B.t e.a with idle:=false,rdy:=true,opn:=B.jb.length+1 }).length:=ht;rw [List.length_set] at ht;have hp:0<(sg (B.ts.set e.a { B.t e.a with idle:=false,rdy:=true,opn:=B.jb.length+1 }) t).opn:=hp;show (sg (B.ts.set e.a { B.t e.a with idle:=false,rdy:=true,opn:=B.jb.length+1 }) t).opn≤(B.jb++[j]).length∧(jg (B.jb++[j]) ((sg (B.ts.set e.a { B.t e.a with idle:=false,rdy:=true,opn:=B.jb.length+1 }) t).opn-1)).ended=false∧(jg (B.jb++[j]) ((sg (B.ts.set e.a { B.t e.a with idle:=false,rdy:=true,opn:=B.jb.length+1 }) t).opn-1)).task=t;rw [sg_set' ha] at hp ⊢
    by_cases z:t=e.a
    ·rw [if_pos z];show B.jb.length+1≤(B.jb++[j]).length∧(jg (B.jb++[j]) (B.jb.length+1-1)).ended=false∧(jg (B.jb++[j]) (B.jb.length+1-1)).task=t;rw [Nat.add_sub_cancel,jg_last];exact ⟨by simp,j1.2.1,by rw [j1.1,z]⟩
    ·rw [if_neg z] at hp ⊢;exact g1.op t ht hp
   ·show (0≤(sg (B.ts.set e.a { B.t e.a with idle:=false,rdy:=true,opn:=B.jb.length+1 }) t).len∧(sg (B.ts.set e.a { B.t e.a with idle:=false,rdy:=true,opn:=B.jb.length+1 }) t).len≤M)∧(0≤(sg (B.ts.set e.a { B.t e.a with idle:=false,rdy:=true,opn:=B.jb.length+1 }) t).lng∧(sg (B.ts.set e.a { B.t e.a with idle:=false,rdy:=true,opn:=B.jb.length+1 }) t).lng≤M);rw [sg_set' ha]
    by_cases z:t=e.a
    ·rw [if_pos z];exact q
    ·rw [if_neg z];exact h.tk t ht
  ·obtain ⟨g2,u2⟩:=g1.same (C:=(B.wJ (B.jb++[j])).setS e.a { B.t e.a with idle:=false,rdy:=true,opn:=B.jb.length+1 }) (List.set_eq_of_length_le (by show B.ts.length≤e.a;omega)) rfl;exact ⟨g2,u1.trans u2⟩
theorem Gr.learn1 {n:Nat} {M:Int} {B:Bk} (h:Gr n M B) (hM:0≤M) (e:Ev) (h8:e.k=8→0<(B.t e.a).opn):Gr n M (B.learn1 e)∧Up B (B.learn1 e):=by
 have q:=h.tk' hM e.a;have q2:=h.tk' hM e.b;unfold Bk.learn1
 by_cases h3:e.k=3
 ·rw [if_pos h3];exact h.same rfl rfl
 rw [if_neg h3]
 by_cases h4:e.k=4
 ·rw [if_pos h4];exact h.same rfl rfl
 rw [if_neg h4]
 by_cases h5:e.k=5
 ·rw [if_pos h5];dsimp only
  split
  ·obtain ⟨g1,u1⟩:=h.put e.b (x:={ B.t e.b with tak:=(B.t e.b).tak+1 }) rfl rfl q2.1 ⟨Int.le_refl _,q2.2.2⟩;obtain ⟨g2,u2⟩:=g1.same (C:={ B.setS e.b { B.t e.b with tak:=(B.t e.b).tak+1 } with run:=e.a }) rfl rfl;exact ⟨g2,u1.trans u2⟩
  ·exact h.same rfl rfl
 rw [if_neg h5]
 by_cases h6:e.k=6∨e.k=8
 ·rw [if_pos h6];exact h.job hM e h8
 rw [if_neg h6]
 by_cases h9:e.k=9
 ·rw [if_pos h9];obtain ⟨g1,u1⟩:=h.put e.a (x:={ B.t e.a with rdy:=false,on:=e.b }) rfl rfl q.1 ⟨Int.le_refl _,q.2.2⟩;dsimp only
  split
  ·exact ⟨g1,u1⟩
  ·obtain ⟨g2,u2⟩:=g1.untidy e.a;exact ⟨g2,u1.trans u2⟩
 rw [if_neg h9]
 by_cases h10:e.k=10
 ·rw [if_pos h10];exact h.put e.a rfl rfl q.1 ⟨Int.le_refl _,q.2.2⟩
 rw [if_neg h10]
 by_cases h12:e.k=12∨e.k=13
 ·rw [if_pos h12];exact h.owner hM ..
 rw [if_neg h12]
 by_cases h21:e.k=21∨e.k=22
 ·rw [if_pos h21]
  split
  ·exact h.put e.a rfl rfl q.1 ⟨Int.le_refl _,q.2.2⟩
  ·exact ⟨h,.refl _⟩
 rw [if_neg h21];exact ⟨h,.refl _⟩
theorem Gr.learn {n:Nat} {M:Int} {B:Bk} (h:Gr n M B) (hM:0≤M) (e:Ev) (h8:e.k=8→0<(B.t e.a).opn):Gr n M (B.learn e)∧Up B (B.learn e):=by
 obtain ⟨g1,u1⟩:=h.learn1 hM e h8;unfold Bk.learn
 split
 ·obtain ⟨g2,u2⟩:=g1.untidy 255;exact ⟨g2,u1.trans u2⟩
 ·exact ⟨g1,u1⟩
theorem Gr.quiet {n:Nat} {M m:Int} {B:Bk} (h:Gr n M B) (hm:0≤m) (hM:M+m<18446744073709551616) (hr:B.run=255∨0≤B.run∧B.run<n):Gr n (M+m) (B.quiet m)∧Up B (B.quiet m):=by
 unfold Bk.quiet
 split
 ·exact ⟨h.up (by omega),.refl _⟩
 ·exact h.ran hm hM hr _
theorem Gr.close {n:Nat} {M:Int} {B:Bk} (h:Gr n M B) (hM0:0≤M) (hM:M+2<18446744073709551616) (hr:B.run=255∨0≤B.run∧B.run<n) (line:Bool) (ahead:List Sk) (ha:0≤(sg ahead B.run.toNat).len∧(sg ahead B.run.toNat).len≤M):Gr n (M+2) (B.close line ahead)∧Up B (B.close line ahead):=by
 unfold Bk.close
 split
 ·exact ⟨h.up (by omega),.refl _⟩
 ·dsimp only;have q:=h.tk' hM0 B.run.toNat
  split
  ·have hw:w64 ((sg ahead B.run.toNat).len+1)=(sg ahead B.run.toNat).len+1:=Int.emod_eq_of_lt (by omega) (by omega);obtain ⟨g1,u1⟩:=(h.up (show M≤M+1 by omega)).put B.run.toNat (x:={ B.t B.run.toNat with lng:=max (B.t B.run.toNat).lng (w64 ((sg ahead B.run.toNat).len+1)) }) rfl rfl (show 0≤(sg B.ts B.run.toNat).len∧(sg B.ts B.run.toNat).len≤M+1 by omega) (by
    show (sg B.ts B.run.toNat).lng≤max (sg B.ts B.run.toNat).lng (w64 ((sg ahead B.run.toNat).len+1))∧max (sg B.ts B.run.toNat).lng (w64 ((sg ahead B.run.toNat).len+1))≤M+1;rw [hw];omega)
   obtain ⟨g2,u2⟩:=g1.ran (m:=1) (by decide) (by omega) (who:=B.run) hr false;exact ⟨g2.up (by omega),u1.trans u2⟩
  ·obtain ⟨g2,u2⟩:=h.ran (m:=1) (by decide) (by omega) hr (decide (0<(sg ahead B.run.toNat).owns));exact ⟨g2.up (by omega),u2⟩
theorem Gr.learns {n:Nat} {M:Int} {B:Bk} {s:List Ev} (h:Gr n M B) (hM:0≤M) (W:∀ k,k<s.length→(evg s k).k=8→0<((B.learns (s.take k)).t (evg s k).a).opn):∀ k,k≤s.length→Gr n M (B.learns (s.take k))∧Up B (B.learns (s.take k))
 | 0,_=>by rw [List.take_zero];exact ⟨h,.refl _⟩
 | k+1,hk=>by
  obtain ⟨g1,u1⟩:=Gr.learns h hM W k (by omega);obtain ⟨g2,u2⟩:=g1.learn hM (evg s k) (W k (by omega));rw [learns_next B (show k<s.length by omega)];exact ⟨g2,u1.trans u2⟩
theorem Gr.step {n:Nat} {M:Int} {B:Bk} {s:List Ev} (h:Gr n M B) (hM0:0≤M) (hM:M+2<18446744073709551616) (W:∀ k,k<s.length→(evg s k).k=8→0<((B.learns (s.take k)).t (evg s k).a).opn) (hr:(B.learns s).run=255∨0≤(B.learns s).run∧(B.learns s).run<n):Gr n (M+2) (B.step s)∧Up B (B.step s):=by
 obtain ⟨g1,u1⟩:=h.learns hM0 W s.length (Nat.le_refl _);rw [List.take_length] at g1 u1;unfold Bk.step;obtain ⟨g2,u2⟩:=g1.close hM0 hM hr (B.ent || hasEnter s) B.ts (h.tk' hM0 _).1;exact ⟨g2,u1.trans u2⟩
theorem chk_last:∀ {l:List Ev} {A:Au},chk A l=none→∀ i,i<l.length→A.last.co≤(evg l i).co
 | [],_,_,i,hi=>absurd hi (Nat.not_lt_zero i)
 | e::l,A,h,i,hi=>by
  obtain ⟨h1,h2⟩:=chk_cons h;have h3:A.last.co≤e.co:=by
   unfold keepsR inTime at h1;have q:=Bool.and_eq_true_iff.1 (Bool.and_eq_true_iff.1 h1).1;have q2:=Bool.and_eq_true_iff.1 q.1;have q3:=Bool.and_eq_true_iff.1 q2.1;exact of_decide_eq_true q3.2
  cases i with
  | zero=>exact h3
  | succ i=>exact Int.le_trans h3 (chk_last h2 i (Nat.lt_of_succ_lt_succ hi))
theorem chk_co:∀ {l:List Ev} {A:Au}, chk A l=none→∀ i j, i≤j→j<l.length→(evg l i).co≤(evg l j).co
  | [], _, _, i, j, _, hj => absurd hj (Nat.not_lt_zero j)
  | e::l, A, h, i, j, hij, hj => by
    obtain ⟨h1, h2⟩ := chk_cons h
    cases j with
    | zero => obtain rfl:i=0 := by omega
              exact Int.le_refl _
    | succ j =>
      have hj := Nat.lt_of_succ_lt_succ hj
      cases i with
      | zero => exact chk_last h2 j hj
      | succ i => exact chk_co h2 i j (Nat.le_of_succ_le_succ hij) hj
def Mk (l:List Ev) (k:Nat):Int:=if k=0 then 0 else 2*((evg l (k-1)).co-(evg l 0).co+1)
structure At (n:Nat) (ts:List Sk) (l:List Ev) (k:Nat) (A:Au) (B:Bk):Prop where
 b:Tie n A B∧chk A (l.drop k)=none∧Num k B∧(bk0 ts).steps none l=B.steps (pv l k) (l.drop k)
 g:Gr n (Mk l k) B
 brd:Border l k
structure Span (n:Nat) (l:List Ev):Prop where
 up:∀ i j,i≤j→j<l.length→(evg l i).co≤(evg l j).co
 lo:∀ i,i<l.length→0≤(evg l i).co∧(evg l i).co<18446744073709551616
 sp:∀ i,i<l.length→(evg l i).co≤(evg l 0).co+1000
theorem Mk_rng {n:Nat} {l:List Ev} (h:Span n l) {k:Nat} (hk:k≤l.length):0≤Mk l k∧Mk l k≤2002:=by
 unfold Mk
 split
 ·decide
 ·have a:=h.up 0 (k-1) (by omega) (by omega);have b:=h.sp (k-1) (by omega);omega
theorem Gr.grp {n:Nat} {ts:List Sk} {l:List Ev} (S:Span n l) (hf:∀ e∈l,EvFit n e) {k e:Nat} {A:Au} {B:Bk} (h:At n ts l k A B) (h1:k<e) (h2:e≤l.length) (h3:∀ i,k≤i→i<e→(evg l i).co=(evg l k).co) (h4:e=l.length∨(evg l e).co≠(evg l k).co) :
  ∃ A',At n ts l e A' ((qv B l k).step ((l.drop k).take (e-k)))∧Up B ((qv B l k).step ((l.drop k).take (e-k))):=by
 obtain ⟨b1,b2,b3,A',b4,b5,b6,b7⟩:=book_next h.b hf h1 h2 h3 h4;have hk:=Mk_rng S (k:=k) (by omega);have he:=Mk_rng S h2;have eL:(evg l (e-1)).co=(evg l k).co:=h3 (e-1) (by omega) (by omega);have key:∃ m:Int,0≤m∧Mk l k+m+2≤Mk l e∧Gr n (Mk l k+m) (qv B l k)∧Up B (qv B l k):=by
  by_cases hk0:k=0
  ·subst hk0;refine ⟨0,Int.le_refl 0,?_,?_,?_⟩
   ·unfold Mk;rw [if_pos rfl,if_neg (by omega),eL];omega
   ·rw [Int.add_zero];exact h.g
   ·exact .refl _
  ·have hlt:=S.up (k-1) k (by omega) (by omega);have hne:(evg l k).co≠(evg l (k-1)).co:=by
    rcases h.brd with hb | hb | hb
    ·exact absurd hb hk0
    ·omega
    ·exact hb
   have r1:=S.lo (k-1) (by omega);have r2:=S.lo k (by omega);have r3:=S.up 0 (k-1) (by omega) (by omega);have r4:=S.sp k (by omega);have ew:w64 (w64 ((evg l k).co-(evg l (k-1)).co)-1)=(evg l k).co-(evg l (k-1)).co-1:=by
    rw [show w64 ((evg l k).co-(evg l (k-1)).co)=(evg l k).co-(evg l (k-1)).co from Int.emod_eq_of_lt (by omega) (by omega)];exact Int.emod_eq_of_lt (by omega) (by omega)
   have eq:qv B l k=B.quiet ((evg l k).co-(evg l (k-1)).co-1):=by
    unfold qv pv;rw [if_neg hk0];dsimp only;rw [ew]
   refine ⟨(evg l k).co-(evg l (k-1)).co-1,by omega,?_,?_⟩
   ·unfold Mk;rw [if_neg hk0,if_neg (by omega),eL];omega
   ·rw [eq];exact h.g.quiet (by omega) (by omega) h.b.1.bk.run
 obtain ⟨m,m1,m2,m3,m4⟩:=key;have hr:=b3.bk _ (Nat.le_refl _);rw [List.take_length] at hr;obtain ⟨g1,u1⟩:=m3.step (by omega) (by omega) b3.ends hr.run;refine ⟨A',⟨⟨b4,b5,b6,b7⟩,g1.up m2,?_⟩,m4.trans u1⟩
 rcases h4 with h4 | h4
 ·exact .inr (.inl h4)
 ·exact .inr (.inr (by rw [eL];exact h4))
theorem gr_0 (c:Cf):Gr c.ts.length 0 (bk0 (tks0 c)):=by
 have hz:∀ t,t<c.ts.length→(sg (tks0 c) t).opn=0∧(sg (tks0 c) t).len=0∧(sg (tks0 c) t).lng=0:=fun t ht=>by
  have hl:t<(tks0 c).length:=by rw [tks0,List.length_map];exact ht
  obtain ⟨q,_,e⟩:=List.mem_map.1 (sg_mem hl);rw [show sg (tks0 c) t=tsk q from e.symm];exact ⟨rfl,rfl,rfl⟩
 have e0:(tks0 c).length=c.ts.length:=by rw [tks0,List.length_map]
 refine ⟨e0,fun t ht hp=>?_,fun k hk=>absurd hk (Nat.not_lt_zero k),fun t ht=>?_,fun k hk=>absurd hk (Nat.not_lt_zero k)⟩
 ·have:=(hz t (by rw [← e0];exact ht)).1;have hp:0<(sg (tks0 c) t).opn:=hp;omega
 ·have q:=hz t ht;show (0≤(sg (tks0 c) t).len∧(sg (tks0 c) t).len≤0)∧(0≤(sg (tks0 c) t).lng∧(sg (tks0 c) t).lng≤0);rw [q.2.1,q.2.2];decide
theorem jg_map (f:Jb→Jb) {J:List Jb} {k:Nat} (h:k<J.length):jg (J.map f) k=f (jg J k):=by
 unfold jg;rw [List.getD_eq_getElem?_getD,List.getD_eq_getElem?_getD,List.getElem?_map,List.getElem?_eq_getElem h];rfl
def FewP (l:List Ev):Prop:=l.length≤600∧(l.length=0∨(evg l (l.length-1)).co<(evg l 0).co∨w64 ((evg l (l.length-1)).co-(evg l 0).co)≤1000)
def FewR (w0:World) (l:List Ev) (e:Ending) (w':World):Prop:=∃ z:Bool,e=.returned (.bool z)∧Sat w0 w' emp∧(z=true→FewP l)
theorem ev_cell {w:World} {eg eo uc:Nat} {l:List Ev} (h:RdR w (.slice (some ⟨eg,eo,none⟩) l.length uc) l) {k:Nat} (hk:k<l.length):w.cell? ⟨eg,eo+k*6+2,none⟩=some (.int .u64 (evg l k).co):=by
 obtain ⟨g,off,e,_,_,h2,_⟩:=ev_at h hk;simp only [Option.some.injEq,Addr.mk.injEq] at e;obtain ⟨rfl,rfl,_⟩:=e;rw [h2];unfold evg;rw [List.getD_eq_getElem?_getD,List.getElem?_eq_getElem hk];rfl
theorem hFew (v u:Value) (c:Cf) (l:List Ev) (w0:World) (hr:RdCf w0 v c) (hu:RdR w0 u l) :
  Calls Tryz.prog 7 #[v,u] w0 (FewR w0 l):=by
 have hs:=Sat.start w0;have hG:=hid (fun (w:World) (h:Sat w0 w any)=>lawGreat v c 0 w (hr.later h));obtain ⟨ua,uc,rfl⟩:∃ ua uc,u=.slice ua l.length uc:=by
  obtain ⟨a,cap,b,off,e,_⟩:=hu;exact ⟨a,cap,e⟩
 have hcap:=hu.caps;unfold maxLen at hcap;have Hu:=hid hu;obtain ⟨ta,la,sa,qa,ma,tc,lc,sc,qc,mc,rfl,h1,h2,h3,h4,h5⟩:=hr.form;clear hr h1 h2 h3 h4 h5 hu
 by_cases g6:600<l.length
 ·have d6:decide ((600:Int)<(l.length:Int))=true:=by simp;omega
  go_enter Tryz.func7,Tryz.ntmps7
  go_wp2_with fail;refine (hG.out _ own_left).mono ?_;rintro en w1 ⟨z,rfl,hs1,_⟩;have hs2:=Sat.past (w0:=w0) own_it hs1;clear hs1 hs hG
  cases z<;>(go_wp2_with fail;go_ret;exact ⟨false,rfl,own_left,fun h=>by cases h⟩)
 ·have d6:decide ((600:Int)<(l.length:Int))=false:=by simp;omega
  have H6:=hid (Nat.le_of_not_lt g6)
  by_cases g0:l.length=0
  ·have H0:=hid g0;have e0:((l.length:Int)==0)=true:=by simp [g0]
   clear g0
   go_enter Tryz.func7,Tryz.ntmps7
   go_wp2_with fail;refine (hG.out _ own_left).mono ?_;rintro en w1 ⟨z,rfl,hs1,_⟩;have hs2:=Sat.past (w0:=w0) own_it hs1;clear hs1 hs hG
   cases z
   ·go_wp2_with fail;refine wp_gen (w0:=w0) ?_;intro wz hsz;clear hs2;refine wp_region_early (fun w'=>Sat w0 w' any) [(0,true),(1,true),(2,true),(3,true),(4,true),(5,true),(6,true),(7,true),(8,true),(9,true),(10,true),(11,true),(12,true),(13,true),(14,true),(15,true),(16,true),(17,true),(18,true),(19,true),(20,true),(21,true),(22,true),(23,true),(24,true),(25,true),(26,true),(27,true),(28,true),(29,true),(30,true),(31,true),(32,true)] (by kernel_rfl) (by kernel_rfl) (fun _ _ _ _ h=>h) own_left ?_
    iterate 33 (first | refine early_S ?_ | refine early_N ?_)
    refine early_done ?_;go_wp2_with fail;go_ret;exact ⟨true,rfl,own_left,fun _=>⟨H6.out,.inl H0.out⟩⟩
   ·go_wp2_with fail;go_ret;exact ⟨false,rfl,own_left,fun h=>by cases h⟩
  ·have e0:((l.length:Int)==0)=false:=by rw [beq_eq_false_iff_ne];omega
   obtain ⟨eg,eo,rfl,_⟩:=rdR_at (k:=0) Hu.out (by omega);have HX:=hid (fun (w:World) (G:HP) (h:Sat w0 w G)=>ev_cell (Hu.out.later h) (k:=l.length-1) (by omega));have HY:=hid (fun (w:World) (G:HP) (h:Sat w0 w G)=>(show w.cell? ⟨eg,eo+2,none⟩=some (.int .u64 (evg l 0).co) by have q:=ev_cell (Hu.out.later h) (k:=0) (by omega);rwa [Nat.zero_mul,Nat.add_zero] at q));have u9:IntKind.i64.wrap ((l.length:Int)-1)=((l.length-1:Nat):Int):=by rw [IntKind.wrap_i64];omega
   have d9:decide (l.length-1<l.length)=true:=decide_eq_true (by omega);have i9:((l.length-1:Nat):Int)<(l.length:Int):=by omega
   have d8:decide (0<l.length)=true:=decide_eq_true (by omega);have i8:(0:Int)<(l.length:Int):=by omega
   obtain ⟨cl,hcl⟩:∃ cl,cl=(evg l (l.length-1)).co:=⟨_,rfl⟩;obtain ⟨cf,hcf⟩:∃ cf,cf=(evg l 0).co:=⟨_,rfl⟩;rw [← hcl] at HX;rw [← hcf] at HY;have Hcl:=hid hcl;have Hcf:=hid hcf;clear hcl hcf
   by_cases hlt:cl<cf
   ·have d1:decide (cl<cf)=true:=decide_eq_true hlt
    go_enter Tryz.func7,Tryz.ntmps7
    go_wp2_with fail;refine (hG.out _ own_left).mono ?_;rintro en w1 ⟨z,rfl,hs1,_⟩;have hs2:=Sat.past (w0:=w0) own_it hs1;clear hs1 hs hG
    cases z
    ·go_wp2_with fail;refine wp_gen (w0:=w0) ?_;intro wz hsz;clear hs2;refine wp_region_early (fun w'=>Sat w0 w' any) [(0,true),(1,true),(2,true),(3,true),(4,true),(5,true),(6,true),(7,true),(8,true),(9,true),(10,true),(11,true),(12,true),(13,true),(14,true),(15,true),(16,true),(17,true),(18,true),(19,true),(20,true),(21,true),(22,true),(23,true),(24,true),(25,true),(26,true),(27,true),(28,true),(29,true),(30,true),(31,true),(32,true)] (by kernel_rfl) (by kernel_rfl) (fun _ _ _ _ h=>h) own_left ?_
     iterate 10 (first | refine early_S ?_ | refine early_N ?_)
     refine early_T rfl (by rfl) ⟨.int .u64 cl,fun w hSw=>?_,?_⟩
     ·have h0:=HX.out w _ hSw
      go_simp
      try with_reducible rfl
     simp only [Act.put,zqA,zqP,zqQ]
     iterate 1 (first | refine early_S ?_ | refine early_N ?_)
     refine early_T rfl (by rfl) ⟨.pointer (some ⟨eg,eo,none⟩),fun w hSw=>(by go_simp),?_⟩;simp only [Act.put,zqA,zqP,zqQ]
     iterate 1 (first | refine early_S ?_ | refine early_N ?_)
     refine early_T rfl (by rfl) ⟨.int .u64 cf,fun w hSw=>?_,?_⟩
     ·have h0:=HY.out w _ hSw
      go_simp
      try with_reducible rfl
     simp only [Act.put,zqA,zqP,zqQ]
     iterate 18 (first | refine early_S ?_ | refine early_N ?_)
     refine early_done ?_;go_wp2_with fail;go_ret;exact ⟨true,rfl,own_left,fun _=>⟨H6.out,.inr (.inl (by rw [← Hcl.out,← Hcf.out];exact hlt))⟩⟩
    ·go_wp2_with fail;go_ret;exact ⟨false,rfl,own_left,fun h=>by cases h⟩
   ·have d1:decide (cl<cf)=false:=decide_eq_false hlt
    go_enter Tryz.func7,Tryz.ntmps7
    go_wp2_with fail;refine (hG.out _ own_left).mono ?_;rintro en w1 ⟨z,rfl,hs1,_⟩;have hs2:=Sat.past (w0:=w0) own_it hs1;clear hs1 hs hG
    cases z
    ·go_wp2_with fail;refine wp_gen (w0:=w0) ?_;intro wz hsz;clear hs2;refine wp_region_early (fun w'=>Sat w0 w' any) [(0,true),(1,true),(2,true),(3,true),(4,true),(5,true),(6,true),(7,true),(8,true),(9,true),(10,true),(11,true),(12,true),(13,true),(14,true),(15,true),(16,true),(17,true),(18,true),(19,true),(20,true),(21,true),(22,true),(23,true),(24,true),(25,true),(26,true),(27,true),(28,true),(29,true),(30,true),(31,true),(32,true)] (by kernel_rfl) (by kernel_rfl) (fun _ _ _ _ h=>h) own_left ?_
     iterate 10 (first | refine early_S ?_ | refine early_N ?_)
     refine early_T rfl (by rfl) ⟨.int .u64 cl,fun w hSw=>?_,?_⟩
     ·have h0:=HX.out w _ hSw
      go_simp
      try with_reducible rfl
     simp only [Act.put,zqA,zqP,zqQ]
     iterate 1 (first | refine early_S ?_ | refine early_N ?_)
     refine early_T rfl (by rfl) ⟨.pointer (some ⟨eg,eo,none⟩),fun w hSw=>(by go_simp),?_⟩;simp only [Act.put,zqA,zqP,zqQ]
     iterate 1 (first | refine early_S ?_ | refine early_N ?_)
     refine early_T rfl (by rfl) ⟨.int .u64 cf,fun w hSw=>?_,?_⟩
     ·have h0:=HY.out w _ hSw
      go_simp
      try with_reducible rfl
     simp only [Act.put,zqA,zqP,zqQ]
     iterate 9 (first | refine early_S ?_ | refine early_N ?_)
     refine early_T rfl (by rfl) ⟨.int .u64 cl,fun w hSw=>?_,?_⟩
     ·have h0:=HX.out w _ hSw
      go_simp
      try with_reducible rfl
     simp only [Act.put,zqA,zqP,zqQ]
     iterate 1 (first | refine early_S ?_ | refine early_N ?_)
     refine early_T rfl (by rfl) ⟨.pointer (some ⟨eg,eo,none⟩),fun w hSw=>(by go_simp),?_⟩;simp only [Act.put,zqA,zqP,zqQ]
     iterate 1 (first | refine early_S ?_ | refine early_N ?_)
     refine early_T rfl (by rfl) ⟨.int .u64 cf,fun w hSw=>?_,?_⟩
     ·have h0:=HY.out w _ hSw
      go_simp
      try with_reducible rfl
     simp only [Act.put,zqA,zqP,zqQ]
     iterate 4 (first | refine early_S ?_ | refine early_N ?_)
     refine early_done ?_;go_wp2_with fail;go_ret;refine ⟨_,rfl,own_left,fun h=>⟨H6.out,.inr (.inr ?_)⟩⟩;have h:=of_decide_eq_true h;rw [IntKind.wrap_u64] at h;rw [← Hcl.out,← Hcf.out];exact h
    ·go_wp2_with fail;go_ret;exact ⟨false,rfl,own_left,fun h=>by cases h⟩
end Go.Proofs.YtkeommmigopnkaaGreatDoor
