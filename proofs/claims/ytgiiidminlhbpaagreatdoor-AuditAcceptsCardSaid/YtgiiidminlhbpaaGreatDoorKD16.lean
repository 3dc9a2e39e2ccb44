/-
  Parts of the proof: AccB AccC AccD AccE AccF AccG AccH AccI AdV.
-/
import Derived.Test.YtgiiidminlhbpaaGreatDoorKD0
import Derived.Test.YtgiiidminlhbpaaGreatDoorKD12
import Derived.Test.YtgiiidminlhbpaaGreatDoorKD15
set_option linter.unusedVariables false
set_option linter.unusedSimpArgs false
set_option maxHeartbeats 32000000
set_option maxRecDepth 100000
namespace Go.Proofs.YtgiiidminlhbpaaGreatDoor
open Go.RowKit Go.Sx Go.Dl Go.Lk Go.Rq Go.Au
section
variable {R:Nat→List Nat}
theorem zu4 {t l k x:Nat} (h:x∈R k):x∈z9N R t l k:=by
 unfold z9N;split
 ·rw [z61]
  by_cases e:k=l
  ·subst e;exact .inl ⟨rfl,List.mem_append_left _ h⟩
  ·exact .inr ⟨e,h⟩
 ·exact h
theorem ztJ {t l:Nat} (ht:t<64) (hl:l<32):∃ k,t∈z9N R t l k:=by
 unfold z9N
 cases e:Go.Rq.z1H R t with
 | none=>rw [if_pos ⟨rfl,ht,hl⟩];exact ⟨l,z61.2 (.inl ⟨rfl,List.mem_append_right _ (by simp)⟩)⟩
 | some k=>rw [if_neg (by simp)];exact ⟨k,(z1a e).1⟩
theorem ztA {t k x:Nat} (hx:x≠t) (h:x∈R k):x∈z5F R t k:=by
 cases e:Go.Rq.z1H R t with
 | none=>rw [z7D e];exact h
 | some l =>
  rw [z7E e,z61]
  by_cases e:k=l
  ·subst e;exact .inl ⟨rfl,(List.mem_erase_of_ne hx).2 h⟩
  ·exact .inr ⟨e,h⟩
theorem zuP {t k x:Nat} (h:x∈R k):∃ k,x∈z6e R t k:=by
 cases e:Go.Rq.z1H R t with
 | none=>rw [z5O e];exact ⟨k,h⟩
 | some l =>
  rw [z5P e]
  by_cases ex:x=t
  ·subst ex;exact ⟨l,z61.2 (.inl ⟨rfl,List.mem_append_right _ (by simp)⟩)⟩
  ·refine ⟨k,z61.2 ?_⟩
   by_cases e:k=l
   ·subst e;exact .inl ⟨rfl,List.mem_append_left _ ((List.mem_erase_of_ne ex).2 h)⟩
   ·exact .inr ⟨e,h⟩
theorem zuO {t l k x:Nat} (h:x∈R k):∃ k,x∈z6b R t l k:=by
 cases e:Go.Rq.z1H R t with
 | none=>rw [z5w e];exact ⟨k,h⟩
 | some j =>
  rw [z45 e]
  split
  ·exact ⟨k,h⟩
  ·rename_i hn
   have hjl:j≠l:=fun e=>hn (.inl e)
   by_cases ex:x=t
   ·subst ex;exact ⟨l,z61.2 (.inl ⟨rfl,List.mem_append_right _ (by simp)⟩)⟩
   ·refine ⟨k,z61.2 ?_⟩
    by_cases e1:k=l
    ·subst e1;exact .inl ⟨rfl,List.mem_append_left _ h⟩
    ·refine .inr ⟨e1,z61.2 ?_⟩
     by_cases e2:k=j
     ·subst e2;exact .inl ⟨rfl,(List.mem_erase_of_ne ex).2 h⟩
     ·exact .inr ⟨e2,h⟩
theorem ztR (hR:z4x R) (h:z0h R=none) (l:Nat):R l=[]:=by
 by_cases hl:l<32
 ·unfold z0h at h;split at h
  ·rename_i e
   have:=List.find?_eq_none.1 e l (List.mem_range.2 hl)
   simpa using this
  ·rename_i k e
   have:=List.find?_some e;simp only [decide_eq_true_eq] at this
   cases hk:R k with
   | nil=>exact absurd hk this
   | cons x m=>rw [hk] at h;cases h
 ·cases e:R l with
  | nil=>rfl
  | cons x m=>exact absurd (hR.out (l:=l) (t:=x) (by rw [e];simp)) hl
end
structure Iv2 (c:Cf) (K:Kn):Prop where
 rall:∀ t,t<c.ts.length→(K.T t).st=1→∃ l,t∈K.R l
 idle:∀ t,t<c.ts.length→(K.T t).st=0→(K.T t).late=0
 live:∀ t:Nat,t<c.ts.length→has K.S t→(K.T t).st<7
 mon:∀ t,t<c.ts.length→0≤z0N K.L t→(K.T t).on=32+z0N K.L t
 slp:∀ t,t<c.ts.length→(K.T t).st=2→(K.T t).on=0
abbrev AgK (c:Cf) (K:Kn) (A:Au):Prop:=Ag c.ts.length K.ln.active (fun j=>K.ln.pending.testBit j) K.run K.T K.L.ow A
structure Kp (A0:Au) (c:Cf) (K:Kn) (A:Au):Prop where
 rn:Rn A0 K.told A
 due:A.due=du0
 ag:AgK c K A
 iv:Iv2 c K
structure ztD (x y:Ts):Prop where
 st:y.st=x.st
 late:y.late=x.late
 on:y.on=x.on
structure ztE (x y:Ts):Prop extends ztD x y where
 job:y.job=x.job
 lev:y.lev=x.lev
theorem ztD.refl (x:Ts):ztD x x:=⟨rfl,rfl,rfl⟩
theorem ztE.refl (x:Ts):ztE x x:=⟨.refl x,rfl,rfl⟩
theorem ztE.tag {x y:Ts} {a:Tk} (h:ztE x y) (g:TAg x a):TAg y a :=
 ⟨by rw [h.st];exact g.st,by rw [h.late];exact g.late,by rw [h.st,h.on];exact g.on,by rw [h.job];exact g.job,by rw [h.lev];exact g.lev⟩
section
variable {c:Cf} {K K':Kn} {A0 A B:Au}
theorem Iv2.sim (h:Iv2 c K) (eT:∀ t,ztD (K.T t) (K'.T t)) (eR:∀ t l,t∈K.R l→∃ l',t∈K'.R l') (eS:∀ t:Nat,t<c.ts.length→has K'.S t→has K.S t) (eL:K'.L.on=K.L.on):Iv2 c K':=by
 refine ⟨fun t ht hs=>?_,fun t ht hs=>?_,fun t ht hs=>?_,fun t ht hs=>?_,fun t ht hs=>?_⟩
 ·rw [(eT t).st] at hs;obtain ⟨l,hl⟩:=h.rall t ht hs;exact eR t l hl
 ·rw [(eT t).st] at hs;rw [(eT t).late];exact h.idle t ht hs
 ·rw [(eT t).st];exact h.live t ht (eS t ht hs)
 ·have e:z0N K'.L t=z0N K.L t:=by unfold z0N;rw [eL]
  rw [e] at hs ⊢;rw [(eT t).on];exact h.mon t ht hs
 ·rw [(eT t).st] at hs;rw [(eT t).on];exact h.slp t ht hs
theorem Kp.sim (h:Kp A0 c K A) (e1:K'.told=K.told) (e2:K'.ln.active=K.ln.active) (e3:K'.ln.pending=K.ln.pending) (e4:K'.run=K.run) (eT:∀ t,ztE (K.T t) (K'.T t))
  (eR:∀ t l,t∈K.R l→∃ l',t∈K'.R l') (eS:∀ t:Nat,t<c.ts.length→has K'.S t→has K.S t) (eL:K'.L.ow=K.L.ow∧K'.L.on=K.L.on):Kp A0 c K' A:=by
 refine ⟨by rw [e1];exact h.rn,h.due,?_,h.iv.sim (fun t=>(eT t).toztD) eR eS eL.2⟩;show Ag _ K'.ln.active (fun j=>K'.ln.pending.testBit j) K'.run K'.T K'.L.ow A;rw [e2,e3,e4,eL.1];exact h.ag.congT fun t ht=>(eT t).tag (h.ag.ts t ht)
theorem zt5 (who:Nat) (n v:Int) (t:Nat):ztE (K.T t) ((K.put who n v).T t):=by
 unfold Kn.put;split
 ·rw [z2U];split
  ·rename_i e;subst e;exact ⟨⟨rfl,rfl,rfl⟩,rfl,rfl⟩
  ·exact .refl _
 ·exact .refl _
theorem zwh (who:Nat) (n v:Int):(K.put who n v).R=K.R:=by unfold Kn.put;split<;>rfl
theorem zvx (who:Nat) (n v:Int):(K.put who n v).ln=K.ln:=by unfold Kn.put;split<;>rfl
theorem zvL (who:Nat) (n v:Int):(K.put who n v).run=K.run:=by unfold Kn.put;split<;>rfl
theorem zuR (who:Nat) (n v:Int):(K.put who n v).told=K.told:=by unfold Kn.put;split<;>rfl
theorem Kp.put (h:Kp A0 c K A) (who:Nat) (n v:Int):Kp A0 c (K.put who n v) A :=
 h.sim (zuR _ _ _) (by rw [zvx]) (by rw [zvx]) (zvL _ _ _) (zt5 who n v) (fun t l hl=>⟨l,by rw [zwh];exact hl⟩) (fun t _ hs=>by rw [zo9] at hs;exact hs) (by rw [zms];exact ⟨rfl,rfl⟩)
def zu5 (kd:Nat):Bool:=kd==2 || kd==14 || kd==15 || kd==16 || kd==17 || kd==18 || kd==19 || kd==20 || kd==23
theorem ztt {kd:Nat} (hk:zu5 kd=true) (A:Au) (a b v:Nat):znq A kd a b v=A:=by
 unfold zu5 at hk;simp only [Bool.or_eq_true,beq_iff_eq,or_assoc] at hk
 rcases hk with rfl | rfl | rfl | rfl | rfl | rfl | rfl | rfl | rfl<;>rfl
theorem AgK.told (h:AgK c K A) (kd:Nat) (a b v:Int):AgK c (K.tell c kd a b v) A:=by
 show Ag _ (K.tell c kd a b v).ln.active (fun j=>(K.tell c kd a b v).ln.pending.testBit j) (K.tell c kd a b v).run (K.tell c kd a b v).T (K.tell c kd a b v).L.ow A;rw [zld,ziI,z01,zbe];exact h
theorem Iv2.told (h:Iv2 c K) (kd:Nat) (a b v:Int):Iv2 c (K.tell c kd a b v) :=
 h.sim (fun t=>by rw [z01];exact ztD.refl _) (fun t l hl=>⟨l,by rw [zgF];exact hl⟩) (fun t _ hs=>by rw [z3V] at hs;exact hs) (by rw [zbe])
theorem Kp.say (hf:c.filter=4294967295) (h:Kp A0 c K A) {kd:Nat} (hk:zu5 kd=true) {a b v:Int} (hr:zob A kd a.toNat b.toNat v.toNat false=true):Kp A0 c (K.tell c kd a b v) (after A K kd a b v):=by
 have hk2:1≤kd∧kd<24:=by
  unfold zu5 at hk;simp only [Bool.or_eq_true,beq_iff_eq,or_assoc] at hk;omega
 refine ⟨zt6 hf h.rn h.due hk2 hr,?_,?_,h.iv.told _ _ _ _⟩
 ·rw [zsZ h.due,ztt hk];exact h.due
 ·refine AgK.told ?_ _ _ _ _;rw [zsZ h.due,ztt hk];exact h.ag.same rfl rfl rfl rfl rfl
def Who (c:Cf) (K:Kn) (who:Nat):Prop:=(who<64∧who<c.ts.length∧K.ln.active=255∧K.run=who∧(K.T who).st=1)∨(64≤who∧who<80∧K.ln.active=(who:Int)-64)
theorem zum (h:AgK c K A) {who:Nat} (hw:Who c K who):zcz A who=true:=by
 unfold zcz
 rcases hw with ⟨h1,h2,h3,h4,h5⟩ | ⟨h1,h2,h3⟩
 ·rw [if_pos h1];simp only [Bool.and_eq_true,decide_eq_true_eq];refine ⟨⟨?_,?_⟩,?_⟩
  ·rw [h.isr,if_pos h3]
  ·rw [h.run,h4,if_neg (by omega)]
  ·rw [(h.ts who h2).st,h5];rfl
 ·rw [if_neg (by omega),if_pos h2];simp only [decide_eq_true_eq];rw [h.isr,if_neg (by omega)];omega
theorem zti {s:Int} (h:2≤s∧s≤6):zv0 s=2:=by
 unfold zv0;rw [if_neg (by omega),if_neg (by omega),if_pos h.2]
theorem zu6 {s:Int} (h:s=7∨s=8):zv0 s=3:=by
 unfold zv0;rw [if_neg (by omega),if_neg (by omega),if_neg (by omega)]
theorem ztM (hf:c.filter=4294967295) (hn:c.ts.length≤64) (hR:Rn A0 K.told A) (hd:A.due=du0) {ow:List Int} (hg:Ag c.ts.length K.ln.active (fun j=>K.ln.pending.testBit j) K.run K.T ow A) {t:Nat} (ht:t<c.ts.length) (hs:2≤(K.T t).st∧(K.T t).st≤6)
  {why:Int} (ans:Int) (hw:((K.T t).on=0∧why=0)∨(((K.T t).on<32∨64≤(K.T t).on)∧0<(K.T t).on)∨(32≤(K.T t).on∧(K.T t).on<64∧why=1∧Go.Au.z3O A ((K.T t).on-32).toNat=0)) :
  ∃ B,Rn A0 (K.wake c t why ans).told B∧B.due=(if znj (z4y A t).on then ⟨12,t,(z4y A t).on-32⟩ else du0)∧Ag c.ts.length K.ln.active (fun j=>K.ln.pending.testBit j) K.run (K.wake c t why ans).T ow B∧B.ow=A.ow:=by
 have tg:=hg.ts t ht;have hon:=tg.on hs.1 hs.2;have h2:(z4y A t).st=2:=by rw [tg.st];exact zti hs
 have hr:zob A 10 ((t:Int)).toNat why.toNat ((0:Int)).toNat false=true:=by
  rw [Int.toNat_natCast];show (decide ((z4y A t).st=2) && (if (z4y A t).on=0 then decide (why.toNat=0) else !znj (z4y A t).on || decide (why.toNat=1) && decide (Go.Au.z3O A ((z4y A t).on-32)=0)))=true;rw [h2];simp only [decide_true,Bool.true_and]
  rcases hw with ⟨a,b⟩ | ⟨a,b⟩ | ⟨a,b,d,e⟩
  ·rw [if_pos (by omega),b];rfl
  ·rw [if_neg (by omega)];have:znj (z4y A t).on=false:=by unfold znj;rw [decide_eq_false_iff_not];omega
   rw [this];rfl
  ·rw [if_neg (by omega),d];have e2:(z4y A t).on-32=((K.T t).on-32).toNat:=by omega
   rw [e2,e];simp
 have hK:(K.wake c t why ans).told=((({ K with S:=z33 (64+t) K.S }.setT t { K.T t with rg:=(K.T t).rg.set (K.call c t).a.toNat ans,st:=1,on:=0 }).tell c 10 t why 0)).told:=rfl;refine ⟨after A ({ K with S:=z33 (64+t) K.S }.setT t { K.T t with rg:=(K.T t).rg.set (K.call c t).a.toNat ans,st:=1,on:=0 }) 10 t why 0,?_,?_,?_,?_⟩
 ·rw [hK];exact zt6 (K:={ K with S:=z33 (64+t) K.S }.setT t { K.T t with rg:=(K.T t).rg.set (K.call c t).a.toNat ans,st:=1,on:=0 }) hf hR hd (by decide) hr
 ·rw [zsZ hd,Int.toNat_natCast];show (if znj (z4y A t).on then (⟨12,t,(z4y A t).on-32⟩:Du) else A.due)=_;rw [hd]
 ·rw [zsZ hd,Int.toNat_natCast,zmR];refine (hg.setT ht hn (x:={ K.T t with rg:=(K.T t).rg.set (K.call c t).a.toNat ans,st:=1,on:=0 }) (y:={ z4y A t with st:=1 }) ?_).same rfl rfl rfl rfl rfl;exact ⟨rfl,tg.late,fun h=>absurd h (by show ¬ (2:Int)≤1;decide),tg.job,tg.lev⟩
 ·rw [zsZ hd];rfl
theorem zuW (h:Iv2 c K) (hn:c.ts.length≤64) {t:Nat} (ht:t<c.ts.length) (hl:0≤(K.T t).lev∧(K.T t).lev<32) (ho:¬ 0≤z0N K.L t) (why ans:Int):Iv2 c (K.wake c t why ans):=by
 have hRe:(K.wake c t why ans).R=z9N K.R t (K.T t).lev.toNat:=by unfold Kn.wake;simp [Kn.setT]
 refine ⟨fun u hu hs=>?_,fun u hu hs=>?_,fun u hu hs=>?_,fun u hu hs=>?_,fun u hu hs=>?_⟩
 ·rw [hRe]
  by_cases e:u=t
  ·subst e;exact ztJ (by omega) (by omega)
  ·rw [zmR,zL _ _ e] at hs;obtain ⟨l,hl⟩:=h.rall u hu hs;exact ⟨l,zu4 hl⟩
 ·rw [zmR] at hs ⊢
  by_cases e:u=t
  ·subst e;rw [zK] at hs;exact absurd (show (1:Int)=0 from hs) (by decide)
  ·rw [zL _ _ e] at hs ⊢;exact h.idle u hu hs
 ·rw [zo3] at hs;rw [zmR]
  by_cases e:u=t
  ·subst e;rw [zK];show (1:Int)<7;decide
  ·rw [zL _ _ e];exact h.live u hu (z8T.1 hs).2
 ·rw [zmQ] at hs ⊢;rw [zmR]
  by_cases e:u=t
  ·subst e;exact absurd hs ho
  ·rw [zL _ _ e];exact h.mon u hu hs
 ·rw [zmR] at hs ⊢
  by_cases e:u=t
  ·subst e;rw [zK] at hs;exact absurd (show (1:Int)=2 from hs) (by decide)
  ·rw [zL _ _ e] at hs ⊢;exact h.slp u hu hs
theorem zu7 (t:Nat) (why a:Int):(K.wake c t why a).run=K.run:=by unfold Kn.wake;simp [Kn.setT]
theorem Kp.wake (hf:c.filter=4294967295) (hn:c.ts.length≤64) (h:Kp A0 c K A) {t:Nat} (ht:t<c.ts.length) (hl:0≤(K.T t).lev∧(K.T t).lev<32) (ho:¬ 0≤z0N K.L t) (hs:2≤(K.T t).st∧(K.T t).st≤6) {why:Int} (ans:Int)
  (hw:((K.T t).on=0∧why=0)∨(((K.T t).on<32∨64≤(K.T t).on)∧0<(K.T t).on)):∃ B,Kp A0 c (K.wake c t why ans) B:=by
 obtain ⟨B,b1,b2,b3,_⟩:=ztM hf hn h.rn h.due h.ag ht hs ans (why:=why) (hw.imp id .inl);have hon:=(h.ag.ts t ht).on hs.1 hs.2;have hm:znj (z4y A t).on=false:=by unfold znj;rw [decide_eq_false_iff_not];omega
 rw [hm] at b2;refine ⟨B,b1,b2,?_,zuW h.iv hn ht hl ho _ _⟩;show Ag _ (K.wake c t why ans).ln.active (fun j=>(K.wake c t why ans).ln.pending.testBit j) (K.wake c t why ans).run _ (K.wake c t why ans).L.ow B;rw [znQ,zu7,zmQ];exact b3
theorem ztC:∀ n,(K.relev c n).L=K.L
 | 0=>rfl
 | n+1=>by
  unfold Kn.relev;dsimp only
  split
  ·exact ztC n
  ·show (Kn.tell _ _ _ _ _ _).L=_;rw [zbe];exact ztC n
theorem Kp.relev (hf:c.filter=4294967295) (hn64:c.ts.length≤64) (h:Kp A0 c K A) (hg:Good K.L) (hLn:K.L.own.length=c.ts.length):∀ n,n≤c.ts.length→∃ B,Kp A0 c (K.relev c n) B
 | 0,_=>⟨A,h⟩
 | n+1,hn=>by
  obtain ⟨B,g⟩:=Kp.relev hf hn64 h hg hLn n (by omega);have i3:(K.relev c n).L=K.L:=ztC n;unfold Kn.relev;dsimp only
  split
  ·exact ⟨B,g⟩
  ·rename_i hne
   have hlt:n<c.ts.length:=by omega
   have tg:=g.ag.ts n hlt;have hl:0≤lg (K.relev c n).L.now n∧lg (K.relev c n).L.now n<32:=by rw [i3];exact hg.fit.nowr n (by omega)
   have hb:(((lg (K.relev c n).L.now n).toNat:Nat):Int)=lg (K.relev c n).L.now n:=by omega
   generalize (K.relev c n)=K1 at *;have hr:zob B 11 ((n:Int)).toNat (lg K1.L.now n).toNat ((0:Int)).toNat false=true:=by
    rw [Int.toNat_natCast];show decide ((z4y B n).lev≠((lg K1.L.now n).toNat:Int)+1)=true;rw [decide_eq_true_eq,hb]
    rcases tg.lev with e | e<;>omega
   refine ⟨after B K1 11 n (lg K1.L.now n) 0,?_,?_,?_,?_⟩
   ·exact zt6 hf g.rn g.due (by decide) hr
   ·rw [zsZ g.due];exact g.due
   ·rw [zsZ g.due,Int.toNat_natCast];show Ag _ (K1.tell c 11 n (lg K1.L.now n) 0).ln.active (fun j=>(K1.tell c 11 n (lg K1.L.now n) 0).ln.pending.testBit j) (K1.tell c 11 n (lg K1.L.now n) 0).run (upd (K1.tell c 11 n (lg K1.L.now n) 0).T n { (K1.tell c 11 n (lg K1.L.now n) 0).T n with lev:=lg K1.L.now n }) (K1.tell c 11 n (lg K1.L.now n) 0).L.ow _;rw [zld,ziI,z01,zbe];refine (g.ag.setT hlt hn64 (x:={ K1.T n with lev:=lg K1.L.now n }) (y:={ z4y B n with lev:=((lg K1.L.now n).toNat:Int)+1 }) ?_).same rfl rfl rfl rfl rfl;exact ⟨tg.st,tg.late,tg.on,tg.job,.inr (by show ((lg K1.L.now n).toNat:Int)+1=lg K1.L.now n+1;omega)⟩
   ·refine Iv2.sim g.iv (fun u=>?_) (fun u l hul=>?_) (fun u _ hs=>?_) ?_
    ·show ztD (K1.T u) (upd (K1.tell c 11 n (lg K1.L.now n) 0).T n { (K1.tell c 11 n (lg K1.L.now n) 0).T n with lev:=lg K1.L.now n } u);rw [z01]
     by_cases e:u=n
     ·subst e;rw [zK];exact ⟨rfl,rfl,rfl⟩
     ·rw [zL _ _ e];exact .refl _
    ·show ∃ l',u∈z6b (K1.tell c 11 n (lg K1.L.now n) 0).R n (lg K1.L.now n).toNat l';rw [zgF];exact zuO hul
    ·have hs:has (K1.tell c 11 n (lg K1.L.now n) 0).S u:=hs;rw [z3V] at hs;exact hs
    ·show (K1.tell c 11 n (lg K1.L.now n) 0).L.on=_;rw [zbe]
end
theorem ztP {n:Nat} {act:Int} {pend:Nat→Bool} {run:Int} {T:Nat→Ts} {ow:List Int} {A:Au} (h:Ag n act pend run T ow A) {m:Nat} (hm:m<ow.length) (h32:m<32) (x:Int) :
  Ag n act pend run T (ow.set m x) { A with ow:=A.ow.set m (if x=255 then 0 else x+1) }:=by
 refine { h with lo:=by show (A.ow.set _ _).length=32;rw [List.length_set];exact h.lo,ow:=fun k hk=>?_ };show owg (A.ow.set m _) k=zuj (ow.set m x) k;have hl:m<A.ow.length:=by rw [h.lo];exact h32
 have e1:owg (A.ow.set m (if x=255 then 0 else x+1)) k=if k=m then (if x=255 then 0 else x+1) else owg A.ow k:=by
  unfold owg
  by_cases e:k=m
  ·subst e;rw [if_pos rfl];simp [List.getD,hl]
  ·rw [if_neg e];simp [List.getD,List.getElem?_set_ne (Ne.symm e)]
 rw [e1];unfold zuj;rw [List.length_set,z2g hm]
 by_cases e:k=m
 ·subst e;rw [if_pos rfl,if_pos hm,if_pos rfl]
 ·rw [if_neg e,if_neg e];exact h.ow k hk
theorem set_set {l:List Int} {m:Nat} (x y:Int):(l.set m x).set m y=l.set m y:=List.set_set ..
theorem ztX {L:Lk} {t m:Int} (h1:0≤t∧t<L.own.length) (h2:0≤m∧m<L.ow.length) (h3:lg L.ow m.toNat=t):(zi L t m).2.1=0:=by
 unfold zi;rw [if_neg (Classical.not_not.2 h1),if_neg (Classical.not_not.2 h2),if_neg (Classical.not_not.2 h3)]
 split<;>rfl
theorem zuh {L:Lk} (hg:Good L) {t m:Int} (h0:(zi L t m).2.1=0):∃ y,(zE L t m).ow=L.ow.set m.toNat y∧((zi L t m).1=255∧y=255∨(zi L t m).1=y∧0≤y∧y<L.own.length∧z0N L y.toNat=m∧¬ 0≤z0N (zE L t m) y.toNat):=by
 rcases z0D L hg t m with ⟨e,k,_⟩ | ⟨a,b,d,e,f,g,h⟩ | ⟨a,b,d,e,f,g,i,h⟩
 ·exact absurd h0 k
 ·refine ⟨255,?_,.inl ⟨by rw [h],rfl⟩⟩;unfold zE;rw [h];rfl
 ·have hx:=z4X hg (m:=m.toNat) (by omega) i;refine ⟨zD L.now (rg L.rows m.toNat),?_,.inr ⟨by rw [h],hx.1,hx.2.1,by rw [hx.2.2];omega,?_⟩⟩
  ·unfold zE;rw [h];show L.ow.set m.toNat (((zD L.now (rg L.rows m.toNat)).toNat:Nat):Int)=_;rw [Int.toNat_of_nonneg hx.1]
  ·have e1:z0N (zE L t m) (zD L.now (rg L.rows m.toNat)).toNat=lg (L.on.set (zD L.now (rg L.rows m.toNat)).toNat (-1)) (zD L.now (rg L.rows m.toNat)).toNat:=by
    unfold zE;rw [h];rfl
   rw [e1,z2g (by rw [hg.fit.lo];omega),if_pos rfl];decide
theorem zug {L:Lk} (hg:Good L) (t m:Int) {u:Nat} (h0:0≤z0N (zE L t m) u):z0N (zE L t m) u=z0N L u:=by
 have e0:z0N (zE L t m) u=lg (zi L t m).2.2.on u:=rfl;rw [e0] at h0 ⊢
 rcases z0D L hg t m with ⟨e,_,k⟩ | ⟨a,b,d,e,f,g,h⟩ | ⟨a,b,d,e,f,g,i,h⟩
 ·rw [e];rfl
 ·rw [h];rfl
 ·rw [h] at h0 ⊢;have hx:=z4X hg (m:=m.toNat) (by omega) i;have hl:(zD L.now (rg L.rows m.toNat)).toNat<L.on.length:=by rw [hg.fit.lo];omega
  have h0:0≤lg (L.on.set (zD L.now (rg L.rows m.toNat)).toNat (-1)) u:=h0;show lg (L.on.set (zD L.now (rg L.rows m.toNat)).toNat (-1)) u=_;rw [z2g hl] at h0 ⊢
  split at h0
  ·omega
  ·rename_i hne;rw [if_neg hne];rfl
section
variable {c:Cf} {K K':Kn} {A0 A B:Au}
theorem Kp.give (hf:c.filter=4294967295) (h:Kp A0 c K A) (hI:Inv c K) {t:Nat} (ht:t<c.ts.length) {m:Int} (hm:0≤m∧m<K.L.ow.length) (ho:lg K.L.ow m.toNat=t) (ha:(z4y A t).st=3∨zcz A t=true) :
  (∃ B,Kp A0 c (K.give c t m) B)∧(∃ y,(K.give c t m).L.ow=K.L.ow.set m.toNat y)∧((K.T t).st≠3→((K.give c t m).T t).st=(K.T t).st):=by
 have hn:=hI.cf.nt;have hmu:=hI.cf.mu;have hLm:=hI.Lm;have hm32:m.toNat<32:=by omega
 have hmn:((m.toNat:Nat):Int)=m:=by omega
 have hml:m.toNat<K.L.ow.length:=by omega
 have h0:=ztX (L:=K.L) (t:=t) (m:=m) ⟨by omega,by rw [hI.Ln];omega⟩ hm ho;obtain ⟨y,ey,hy⟩:=zuh hI.L h0;have eg:(K.give c t m).L=zE K.L t m:=by unfold Kn.give;rw [zmU]
 have hr:zob A 13 ((t:Int)).toNat m.toNat ((0:Int)).toNat false=true:=by
  rw [Int.toNat_natCast];show (decide (Go.Au.z3O A m.toNat=(t:Int)+1) && (decide ((z4y A t).st=3) || zcz A t))=true;have e1:Go.Au.z3O A m.toNat=(t:Int)+1:=by
   rw [h.ag.ow _ hm32];unfold zuj;rw [if_pos hml,ho,if_neg (by omega)]
  rw [e1]
  rcases ha with e | e<;>rw [e]<;>simp
 have r1:=zt6 (K:={ K with L:=zE K.L t m }) hf h.rn h.due (by decide) hr;have a1:=ztP h.ag hml hm32 255;have e13:=zsZ (K:={ K with L:=zE K.L t m }) h.due 13 (t:Int) m 0;rw [Int.toNat_natCast] at e13;have e13':after A { K with L:=zE K.L t m } 13 (t:Int) m 0={ A with ow:=A.ow.set m.toNat 0,last:=⟨13,K.cycle,K.count,t,m.toNat,0⟩,seen:=A.seen+1 }:=e13;obtain ⟨B1,hB1⟩:∃ B1,B1=after A { K with L:=zE K.L t m } 13 (t:Int) m 0:=⟨_,rfl⟩;rw [← hB1] at r1 e13';have a2:Ag c.ts.length K.ln.active (fun j=>K.ln.pending.testBit j) K.run K.T (K.L.ow.set m.toNat 255) B1:=by
  rw [e13'];exact a1.same rfl rfl rfl rfl rfl
 have d1:B1.due=du0:=by rw [e13'];exact h.due
 have iv1:Iv2 c { K with L:=zE K.L t m }:=⟨h.iv.rall,h.iv.idle,h.iv.live,fun u hu hs=>by
  have:=zug hI.L t m hs;show (K.T u).on=32+z0N (zE K.L t m) u;have hs:0≤z0N (zE K.L t m) u:=hs;rw [this] at hs ⊢;exact h.iv.mon u hu hs,h.iv.slp⟩
 rcases hy with ⟨hx,rfl⟩ | ⟨hx,y0,y1,y2,y3⟩
 ·have eK:K.give c t m=({ K with L:=zE K.L t m }:Kn).tell c 13 t m 0:=by
   unfold Kn.give Kn.handed;rw [hx];rfl
  refine ⟨⟨B1,?_,d1,?_,?_⟩,⟨_,by rw [eg];exact ey⟩,fun _=>by rw [eK,z01]⟩
  ·rw [eK];exact r1
  ·rw [eK];refine AgK.told ?_ _ _ _ _;show Ag _ _ _ _ _ (zE K.L t m).ow _;rw [ey];exact a2
  ·rw [eK];exact iv1.told _ _ _ _
 ·rw [hI.Ln] at y1;obtain ⟨x,rfl⟩:∃ x:Nat,y=x:=⟨y.toNat,by omega⟩;rw [Int.toNat_natCast] at y2 y3;have hxl:x<c.ts.length:=by omega
  have eK:K.give c t m=((({ K with L:=zE K.L t m }:Kn).tell c 13 t m 0).wake c x 1 0).tell c 12 x m 0:=by
   unfold Kn.give Kn.handed;rw [hx,if_neg (by omega)];rfl
  have hst:=hI.Lw x hxl (by rw [y2];omega);have hon:=h.iv.mon x hxl (by rw [y2];omega);rw [y2] at hon;have o0:Go.Au.z3O B1 m.toNat=0:=by
   rw [a2.ow _ hm32];unfold zuj;rw [List.length_set,if_pos hml,z2g hml,if_pos rfl,if_pos rfl]
  have r1':Rn A0 (({ K with L:=zE K.L t m }:Kn).tell c 13 t m 0).told B1:=r1;generalize hK1:({ K with L:=zE K.L t m }:Kn).tell c 13 t m 0=K1 at *;have k1:K1.T=K.T:=by rw [← hK1,z01]
  have k2:K1.ln=K.ln:=by rw [← hK1,zld]
  have k3:K1.run=K.run:=by rw [← hK1,ziI]
  have k4:K1.L=zE K.L t m:=by rw [← hK1,zbe]
  have iv2:Iv2 c K1:=by rw [← hK1];exact iv1.told _ _ _ _
  have a3:Ag c.ts.length K1.ln.active (fun j=>K1.ln.pending.testBit j) K1.run K1.T (K.L.ow.set m.toNat 255) B1:=by rw [k1,k2,k3];exact a2
  have hT:=hI.T x hxl;obtain ⟨B2,b1,b2,b3,b4⟩:=ztM hf hn r1' d1 a3 hxl (by rw [k1,hst];decide) 0 (why:=1) (.inr (.inr (by
   rw [k1,hon];refine ⟨by omega,by omega,rfl,?_⟩;rw [show (32+m-32).toNat=m.toNat by omega];exact o0)))
  have tg:=a2.ts x hxl;have hxo:=tg.on (by rw [hst];decide) (by rw [hst];decide);rw [hon] at hxo;have hmu2:znj (z4y B1 x).on=true:=by unfold znj;rw [decide_eq_true_eq];omega
  rw [hmu2,if_pos rfl] at b2;have hxm:(z4y B1 x).on-32=m.toNat:=by omega
  rw [hxm] at b2;have e12:({ B2 with due:=du0 }:Au).ow=B1.ow:=b4;have r12:zob { B2 with due:=du0 } 12 ((x:Int)).toNat m.toNat ((0:Int)).toNat true=true:=by
   rw [Int.toNat_natCast];show (decide (Go.Au.z3O { B2 with due:=du0 } m.toNat=0) && (true || zcz { B2 with due:=du0 } x))=true;have:Go.Au.z3O { B2 with due:=du0 } m.toNat=Go.Au.z3O B1 m.toNat:=by unfold Go.Au.z3O;rw [e12]
   rw [this,o0];rfl
  have r2:=zuS (K:=K1.wake c x 1 0) (kd:=12) (a:=(x:Int)) (b:=m) (v:=0) hf b1 (by rw [b2,Int.toNat_natCast];rfl) (by decide) r12;have e2:=ztg (K:=K1.wake c x 1 0) (A:=B2) 12 (x:Int) m 0;rw [Int.toNat_natCast] at e2;have iv3:=zuW iv2 hn hxl (by rw [k1];exact hT.lev) (by rw [k4];exact y3) 1 0;refine ⟨⟨after B2 (K1.wake c x 1 0) 12 (x:Int) m 0,?_,?_,?_,?_⟩,⟨_,by rw [eg];exact ey⟩,fun hne=>?_⟩
  ·rw [eK];exact r2
  ·rw [e2];rfl
  ·rw [eK];refine AgK.told ?_ _ _ _ _;show Ag _ (K1.wake c x 1 0).ln.active (fun j=>(K1.wake c x 1 0).ln.pending.testBit j) (K1.wake c x 1 0).run _ (K1.wake c x 1 0).L.ow _;rw [znQ,zu7,zmQ,k4,ey,e2];have a4:=ztP b3 (m:=m.toNat) (by rw [List.length_set];exact hml) hm32 (x:Int);rw [set_set,if_neg (by omega)] at a4;exact a4.same rfl rfl rfl rfl rfl
  ·rw [eK];exact iv3.told _ _ _ _
  ·rw [eK,z01,zmR,k1];rw [zL _ _ (fun e=>hne (by rw [e];exact hst))]
theorem Kp.gives (hf:c.filter=4294967295) {t:Nat} (ht:t<c.ts.length):∀ (l:List Int) {K:Kn} {A:Au},Kp A0 c K A→Inv c K→((K.T t).st=7∨(K.T t).st=8)→l.Nodup→(∀ m∈l,(0≤m∧m<K.L.ow.length)∧lg K.L.ow m.toNat=t) →
  ∃ B,Kp A0 c (l.foldl (fun K m=>K.give c t m) K) B
 | [],K,A,h,_,_,_,_=>⟨A,h⟩
 | m::l,K,A,h,hI,hs,hnd,hl=>by
  obtain ⟨hm,ho⟩:=hl m (List.mem_cons_self ..);obtain ⟨⟨B,hB⟩,⟨y,ey⟩,hT⟩:=Kp.give hf h hI ht hm ho (.inl (by rw [(h.ag.ts t ht).st];exact zu6 hs));rw [List.nodup_cons] at hnd;refine Kp.gives hf ht l hB (z6n hI t m) (by rw [hT (by omega)];exact hs) hnd.2 fun k hk=>?_;obtain ⟨hk1,hk2⟩:=hl k (List.mem_cons_of_mem _ hk);rw [ey,List.length_set];refine ⟨hk1,?_⟩;rw [z2g (by omega),if_neg ?_]
  ·exact hk2
  ·intro e;have:k=m:=by omega
   subst this;exact hnd.1 hk
theorem zud {ow:List Int} {t:Int} {k:Nat} {x:Int} (h:x∈z6V ow t k):0≤x∧x<k∧lg ow x.toNat=t:=by
 unfold z6V at h;rw [List.mem_map] at h;obtain ⟨m,h,rfl⟩:=h;rw [List.mem_filter] at h;refine ⟨by omega,by have:=List.mem_range.1 h.1;omega,?_⟩;rw [Int.toNat_natCast];simpa using h.2
theorem ztS (ow:List Int) (t:Int) (k:Nat):(z6V ow t k).Nodup:=by
 unfold z6V;exact List.pairwise_map.2 ((List.nodup_range.filter _).imp fun h e=>h (Int.ofNat.inj e))
theorem Kp.gone (hf:c.filter=4294967295) (hn:c.ts.length≤64) (h:Kp A0 c K A) {t:Nat} (ht:t<c.ts.length) (hlk:¬ 0≤z0N K.L t) (ha:zcz A t=true) {kd:Nat} (hk:kd=21∨kd=22) (e:Int) {status:Int} (hs:status=7∨status=8)
  (i1:Inv c { (K.tell c kd t e 0).setT t { (K.tell c kd t e 0).T t with st:=status } with R:=z5F (K.tell c kd t e 0).R t,S:=z33 t (K.tell c kd t e 0).S }) :
  ∃ B,Kp A0 c ((K.tell c kd t e 0).gone c t status) B:=by
 have tg:=h.ag.ts t ht;have hr:zob A kd ((t:Int)).toNat e.toNat ((0:Int)).toNat false=true:=by
  rw [Int.toNat_natCast]
  rcases hk with rfl | rfl<;>exact ha
 have hl:znq A kd ((t:Int)).toNat e.toNat ((0:Int)).toNat=setT A t { z4y A t with st:=3 }:=by
  rw [Int.toNat_natCast]
  rcases hk with rfl | rfl
  ·show (if t<64 then _ else _)=_;rw [if_pos (by omega)]
  ·rfl
 have k0:Kp A0 c { (K.tell c kd t e 0).setT t { (K.tell c kd t e 0).T t with st:=status } with R:=z5F (K.tell c kd t e 0).R t,S:=z33 t (K.tell c kd t e 0).S } (after A K kd t e 0):=by
  refine ⟨zt6 hf h.rn h.due (by omega) hr,?_,?_,?_⟩
  ·rw [zsZ h.due,hl];exact h.due
  ·rw [zsZ h.due,hl];show Ag _ (K.tell c kd t e 0).ln.active (fun j=>(K.tell c kd t e 0).ln.pending.testBit j) (K.tell c kd t e 0).run (upd (K.tell c kd t e 0).T t { (K.tell c kd t e 0).T t with st:=status }) (K.tell c kd t e 0).L.ow _;rw [zld,ziI,z01,zbe];refine (h.ag.setT ht hn (x:={ K.T t with st:=status }) (y:={ z4y A t with st:=3 }) ?_).same rfl rfl rfl rfl rfl;exact ⟨(zu6 hs).symm,tg.late,fun h=>by show status≤6→_;omega,tg.job,tg.lev⟩
  ·have hT2:∀ u,u≠t→(upd (K.tell c kd t e 0).T t { (K.tell c kd t e 0).T t with st:=status }) u=K.T u:=fun u hu=>by rw [zL _ _ hu,z01]
   refine ⟨fun u hu h1=>?_,fun u hu h1=>?_,fun u hu h1=>?_,fun u hu h1=>?_,fun u hu h1=>?_⟩
   ·have h1:(upd (K.tell c kd t e 0).T t { (K.tell c kd t e 0).T t with st:=status } u).st=1:=h1;show ∃ l,u∈z5F (K.tell c kd t e 0).R t l
    by_cases eu:u=t
    ·subst eu;rw [zK] at h1;have h1:status=1:=h1;omega
    ·rw [hT2 u eu] at h1;obtain ⟨l,hl⟩:=h.iv.rall u hu h1;rw [zgF];exact ⟨l,ztA eu hl⟩
   ·have h1:(upd (K.tell c kd t e 0).T t { (K.tell c kd t e 0).T t with st:=status } u).st=0:=h1;show (upd (K.tell c kd t e 0).T t { (K.tell c kd t e 0).T t with st:=status } u).late=0
    by_cases eu:u=t
    ·subst eu;rw [zK] at h1;have h1:status=0:=h1;omega
    ·rw [hT2 u eu] at h1 ⊢;exact h.iv.idle u hu h1
   ·have h1:=z8T.1 h1;rw [z3V] at h1;show (upd (K.tell c kd t e 0).T t { (K.tell c kd t e 0).T t with st:=status } u).st<7;rw [hT2 u (fun e=>h1.1 (by rw [e]))];exact h.iv.live u hu h1.2
   ·have h1:0≤z0N (K.tell c kd t e 0).L u:=h1;show (upd (K.tell c kd t e 0).T t { (K.tell c kd t e 0).T t with st:=status } u).on=32+z0N (K.tell c kd t e 0).L u;rw [zbe] at h1 ⊢;rw [hT2 u (fun e=>hlk (by rw [← e];exact h1))];exact h.iv.mon u hu h1
   ·have h1:(upd (K.tell c kd t e 0).T t { (K.tell c kd t e 0).T t with st:=status } u).st=2:=h1;show (upd (K.tell c kd t e 0).T t { (K.tell c kd t e 0).T t with st:=status } u).on=0
    by_cases eu:u=t
    ·subst eu;rw [zK] at h1;have h1:status=2:=h1;omega
    ·rw [hT2 u eu] at h1 ⊢;exact h.iv.slp u hu h1
 have hh:∀ m∈z1O (K.tell c kd t e 0).L t,(0≤m∧m<(K.tell c kd t e 0).L.ow.length)∧lg (K.tell c kd t e 0).L.ow m.toNat=t:=fun m hm=>by
  unfold z1O at hm;split at hm
  ·have:=zud hm;exact ⟨⟨this.1,this.2.1⟩,this.2.2⟩
  ·cases hm
 have hnd:(z1O (K.tell c kd t e 0).L t).Nodup:=by
  unfold z1O;split
  ·exact ztS _ _ _
  ·exact List.nodup_nil
 obtain ⟨B,hB⟩:=Kp.gives hf ht (z1O (K.tell c kd t e 0).L t) k0 i1 (by show (upd (K.tell c kd t e 0).T t { (K.tell c kd t e 0).T t with st:=status } t).st=7∨(upd (K.tell c kd t e 0).T t { (K.tell c kd t e 0).T t with st:=status } t).st=8;rw [zK];exact hs) hnd hh;have i2:=z3E t (z1O (K.tell c kd t e 0).L t) _ i1;exact Kp.relev hf hn hB i2.L i2.Ln _ (Nat.le_refl _)
theorem Kp.hold (hf:c.filter=4294967295) (h:Kp A0 c K A) (hI:Inv c K) {t:Nat} (ht:t<c.ts.length) (ha:zcz A t=true) {L:Lk} {S:List Ck} (hL:L.ow=K.L.ow) (hu:∀ u,u<c.ts.length→u≠t→0≤z0N L u→z0N L u=z0N K.L u)
  {status on:Int} (hm:0≤z0N L t→on=32+z0N L t) (hS:∀ u:Nat,u<c.ts.length→has S u→has K.S u) (hs:2≤status∧status≤6) (h2:status=2→on=0) (ho:0≤on) (hr:32≤on→on<64→zuj K.L.ow (on-32).toNat≠0∧zuj K.L.ow (on-32).toNat≠(t:Int)+1) (i:Ins) :
  ∃ B,Kp A0 c (({ K with L:=L,S:=S }:Kn).hold c t status on i) B:=by
 have hn:=hI.cf.nt;have tg:=h.ag.ts t ht;have hru:zob A 9 ((t:Int)).toNat on.toNat ((0:Int)).toNat false=true:=by
  rw [Int.toNat_natCast];show (zcz A t && (!znj on.toNat || decide (Go.Au.z3O A (on.toNat-32)≠0) && decide (Go.Au.z3O A (on.toNat-32)≠(t:Int)+1)))=true;rw [ha,Bool.true_and]
  by_cases hmu:32≤on∧on<64
  ·obtain ⟨g1,g2⟩:=hr hmu.1 hmu.2;have e1:on.toNat-32=(on-32).toNat:=by omega
   rw [e1,h.ag.ow _ (by omega)];simp [g1,g2]
  ·have:znj on.toNat=false:=by unfold znj;rw [decide_eq_false_iff_not];omega
   rw [this];rfl
 obtain ⟨S2,hS2,hK⟩:∃ S2,(∀ u:Nat,u<c.ts.length→has S2 u→has K.S u)∧({ K with L:=L,S:=S }:Kn).hold c t status on i=({ ({ K with L:=L,S:=S2 }:Kn).setT t { K.T t with st:=status,on:=on } with R:=z5F K.R t }:Kn).tell c 9 t on 0:=by
  unfold Kn.hold
  by_cases e:i.d=2
  ·refine ⟨z5B S (64+t) ((K.T t).rg.get i.c.toNat),fun u hu hh=>?_,by simp only [e,if_true]⟩
   rcases zc8 hh with e | hh
   ·omega
   ·exact hS u hu hh
  ·exact ⟨S,hS,by simp only [e,if_false]⟩
 rw [hK];refine ⟨after A ({ ({ K with L:=L,S:=S2 }:Kn).setT t { K.T t with st:=status,on:=on } with R:=z5F K.R t }:Kn) 9 t on 0,zt6 (K:=({ ({ K with L:=L,S:=S2 }:Kn).setT t { K.T t with st:=status,on:=on } with R:=z5F K.R t }:Kn)) hf h.rn h.due (by decide) hru,?_,?_,?_⟩
 ·rw [zsZ h.due];exact h.due
 ·refine AgK.told ?_ _ _ _ _;rw [zsZ h.due,Int.toNat_natCast];show Ag _ K.ln.active (fun j=>K.ln.pending.testBit j) K.run (upd K.T t { K.T t with st:=status,on:=on }) L.ow _;rw [hL];refine (h.ag.setT ht hn (x:={ K.T t with st:=status,on:=on }) (y:={ z4y A t with st:=2,on:=on.toNat }) ?_).same rfl rfl rfl rfl rfl;exact ⟨(zti hs).symm,tg.late,fun _ _=>by show ((on.toNat:Nat):Int)=on;omega,tg.job,tg.lev⟩
 ·refine Iv2.told ?_ _ _ _ _;refine ⟨fun u hul h1=>?_,fun u hul h1=>?_,fun u hul h1=>?_,fun u hul h1=>?_,fun u hul h1=>?_⟩
  all_goals dsimp only [Kn.setT] at h1 ⊢
  ·by_cases eu:u=t
   ·subst eu;rw [zK] at h1;have h1:status=1:=h1;omega
   ·rw [zL _ _ eu] at h1;obtain ⟨l,hl⟩:=h.iv.rall u hul h1;exact ⟨l,ztA eu hl⟩
  ·by_cases eu:u=t
   ·subst eu;rw [zK] at h1;have h1:status=0:=h1;omega
   ·rw [zL _ _ eu] at h1 ⊢;exact h.iv.idle u hul h1
  ·by_cases eu:u=t
   ·subst eu;rw [zK];show status<7;omega
   ·rw [zL _ _ eu];exact h.iv.live u hul (hS2 u hul h1)
  ·by_cases eu:u=t
   ·subst eu;rw [zK];exact hm h1
   ·rw [zL _ _ eu];have:=hu u hul eu h1;rw [this] at h1 ⊢;exact h.iv.mon u hul h1
  ·by_cases eu:u=t
   ·subst eu;rw [zK] at h1 ⊢;exact h2 h1
   ·rw [zL _ _ eu] at h1 ⊢;exact h.iv.slp u hul h1
end
section
variable {c:Cf} {K K':Kn} {A0 A B:Au}
theorem Kp.setSm (h:Kp A0 c K A) (x):Kp A0 c { K with sm:=x } A:=h.sim rfl rfl rfl rfl (fun _=>.refl _) (fun t l hl=>⟨l,hl⟩) (fun _ _ h=>h) ⟨rfl,rfl⟩
theorem Kp.setMl (h:Kp A0 c K A) (x):Kp A0 c { K with ml:=x } A:=h.sim rfl rfl rfl rfl (fun _=>.refl _) (fun t l hl=>⟨l,hl⟩) (fun _ _ h=>h) ⟨rfl,rfl⟩
theorem Kp.setRd (h:Kp A0 c K A) (x):Kp A0 c { K with reads:=x } A:=h.sim rfl rfl rfl rfl (fun _=>.refl _) (fun t l hl=>⟨l,hl⟩) (fun _ _ h=>h) ⟨rfl,rfl⟩
theorem Kp.setS (h:Kp A0 c K A) {S:List Ck} (hS:∀ u:Nat,u<c.ts.length→has S u→has K.S u):Kp A0 c { K with S:=S } A:=h.sim rfl rfl rfl rfl (fun _=>.refl _) (fun t l hl=>⟨l,hl⟩) (fun u hu h=>hS u hu h) ⟨rfl,rfl⟩
theorem zt9 (hI:Inv c K) {t:Nat} (ht:t<c.ts.length) (h:(K.T t).st≠3):¬ 0≤z0N K.L t:=fun e=>h (hI.Lw t ht e)
theorem Kp.post (hf:c.filter=4294967295) (h:Kp A0 c K A) (hI:Inv c K) {who:Int} (ha:zcz A who.toNat=true) {s:Nat} (hs:s<c.sems.length):∃ B,Kp A0 c (K.post c who s) B:=by
 have hn:=hI.cf.nt;have hos:=hI.sm s hs;unfold Kn.post;dsimp only
 split
 ·exact ⟨A,h⟩
 ·have h1:=(h.setSm (upd K.sm s (z1Z (K.sm s).1 (K.sm s).2,z2I K.L.now (K.sm s).2))).say hf (kd:=14) (a:=who) (b:=s) (v:=z1Z (K.sm s).1 (K.sm s).2) rfl ha
  split
  ·rename_i hne
   have hm:=z1n K.L.now _ hne;obtain ⟨g1,g2,g3⟩:=hI.smr s hs _ hm;have g0:=(hos.row.2 _ hm).1;have hlt:(zD K.L.now (K.sm s).2).toNat<c.ts.length:=by omega
   refine Kp.wake hf hn h1 hlt ?_ ?_ ?_ 0 (.inr ?_)
   ·rw [z01];exact (hI.T _ hlt).lev
   ·rw [zbe];exact zt9 hI hlt (by rw [g2];decide)
   ·rw [z01];show 2≤(K.T _).st∧_;rw [g2];decide
   ·rw [z01];show ((K.T _).on<32∨_)∧_;rw [g3];omega
  ·exact ⟨_,h1⟩
theorem Kp.timeout (hf:c.filter=4294967295) (h:Kp A0 c K A) (hI:Inv c K) {t:Nat} (ht:t<c.ts.length) (hs:(K.T t).st=1∨z4Z (K.T t)):∃ B,Kp A0 c (K.timeout c t) B:=by
 have hn:=hI.cf.nt;have hT:=hI.T t ht;unfold z4Z at hs;unfold Kn.timeout;dsimp only
 split
 ·exact ⟨A,h⟩
 rename_i n1
 have hl:=zt9 hI ht (by omega)
 split
 ·rename_i e;exact Kp.wake hf hn h ht hT.lev hl (by omega) 0 (.inl ⟨h.iv.slp t ht e,rfl⟩)
 rename_i n2
 split
 ·rename_i e;have:=hT.on4 e;exact Kp.wake (K:={ K with sm:=upd K.sm ((K.T t).on-64).toNat ((K.sm ((K.T t).on-64).toNat).1,(K.sm ((K.T t).on-64).toNat).2.erase t) }) hf hn (h.setSm _) ht hT.lev hl (by show 2≤(K.T t).st∧(K.T t).st≤6;omega) 9 (.inr (by show ((K.T t).on<32∨64≤(K.T t).on)∧0<(K.T t).on;omega))
 rename_i n4
 split
 ·rename_i e;have:=hT.on5 e;exact Kp.wake (K:={ K with ml:=upd K.ml ((K.T t).on-96).toNat ((K.ml ((K.T t).on-96).toNat).cancel t) }) hf hn (h.setMl _) ht hT.lev hl (by show 2≤(K.T t).st∧(K.T t).st≤6;omega) 9 (.inr (by show ((K.T t).on<32∨64≤(K.T t).on)∧0<(K.T t).on;omega))
 rename_i n5
 split
 ·rename_i e;have:=hT.on6 e;exact Kp.wake (K:={ K with ml:=upd K.ml ((K.T t).on-128).toNat ((K.ml ((K.T t).on-128).toNat).cancel t) }) hf hn (h.setMl _) ht hT.lev hl (by show 2≤(K.T t).st∧(K.T t).st≤6;omega) 9 (.inr (by show ((K.T t).on<32∨64≤(K.T t).on)∧0<(K.T t).on;omega))
 ·omega
theorem zu2 (h:Iv2 c K) {t:Nat} {x:Ts} (eT:K'.T=upd K.T t x) (eL:K'.L=K.L) (hR:∀ u l,u≠t→u∈K.R l→∃ l,u∈K'.R l) (hR1:x.st=1→∃ l,t∈K'.R l) (h0:x.st=0→x.late=0)
  (hS:∀ u:Nat,u<c.ts.length→u≠t→has K'.S u→has K.S u) (hS1:has K'.S t→x.st<7) (hm:0≤z0N K.L t→x.on=32+z0N K.L t) (h2:x.st=2→x.on=0):Iv2 c K':=by
 refine ⟨fun u hu h1=>?_,fun u hu h1=>?_,fun u hu h1=>?_,fun u hu h1=>?_,fun u hu h1=>?_⟩
 ·rw [eT] at h1
  by_cases e:u=t
  ·subst e;rw [zK] at h1;exact hR1 h1
  ·rw [zL _ _ e] at h1;obtain ⟨l,hl⟩:=h.rall u hu h1;exact hR u l e hl
 ·rw [eT] at h1 ⊢
  by_cases e:u=t
  ·subst e;rw [zK] at h1 ⊢;exact h0 h1
  ·rw [zL _ _ e] at h1 ⊢;exact h.idle u hu h1
 ·rw [eT]
  by_cases e:u=t
  ·subst e;rw [zK];exact hS1 h1
  ·rw [zL _ _ e];exact h.live u hu (hS u hu e h1)
 ·rw [eL] at h1 ⊢;rw [eT]
  by_cases e:u=t
  ·subst e;rw [zK];exact hm h1
  ·rw [zL _ _ e];exact h.mon u hu h1
 ·rw [eT] at h1 ⊢
  by_cases e:u=t
  ·subst e;rw [zK] at h1 ⊢;exact h2 h1
  ·rw [zL _ _ e] at h1 ⊢;exact h.slp u hu h1
theorem ztY (h:AgK c K A) (hn:c.ts.length≤64) {t:Nat} (ht:t<c.ts.length) {x:Ts} {y:Tk} (hx:TAg x y) (eT:K'.T=upd K.T t x) (eL:K'.L.ow=K.L.ow) (e1:K'.ln=K.ln) (e2:K'.run=K.run)
  (b1:B.ts=A.ts.set t y) (b2:B.ow=A.ow) (b3:B.pn=A.pn) (b4:B.isr=A.isr) (b5:B.run=A.run):AgK c K' B:=by
 show Ag _ K'.ln.active (fun j=>K'.ln.pending.testBit j) K'.run K'.T K'.L.ow B;rw [eT,eL,e1,e2];exact (h.setT ht hn hx).same b1 b2 b3 b4 b5
theorem Kp.setS2 (h:Kp A0 c K A) {S:List Ck} (hS:∀ u:Nat,u<c.ts.length→has S u→has K.S u∨(K.T u).st<7):Kp A0 c { K with S:=S } A :=
 ⟨h.rn,h.due,h.ag,⟨h.iv.rall,h.iv.idle,fun u hu h1=>(hS u hu h1).elim (h.iv.live u hu) id,h.iv.mon,h.iv.slp⟩⟩
theorem Kp.release (hf:c.filter=4294967295) (h:Kp A0 c K A) (hI:Inv c K) {t:Nat} (ht:t<c.ts.length) (hs:(K.T t).st<7):∃ B,Kp A0 c (K.release c t) B:=by
 have hn:=hI.cf.nt;have hT:=hI.T t ht;have tg:=h.ag.ts t ht;have hst:=hT.st;have key:(∃ B,Kp A0 c (if (K.T t).st=0 then
   { (K.setT t { K.T t with job:=((K.T t).job+1)%4294967296,st:=1 }).tell c 6 t 0 (((K.T t).job+1)%4294967296) with R:=z9N ((K.setT t { K.T t with job:=((K.T t).job+1)%4294967296,st:=1 }).tell c 6 t 0 (((K.T t).job+1)%4294967296)).R t (K.T t).lev.toNat }
  else (K.setT t { K.T t with late:=min ((K.T t).late+1) 255 }).tell c 7 t 0 (min ((K.T t).late+1) 255)) B)∧(((if (K.T t).st=0 then
   { (K.setT t { K.T t with job:=((K.T t).job+1)%4294967296,st:=1 }).tell c 6 t 0 (((K.T t).job+1)%4294967296) with R:=z9N ((K.setT t { K.T t with job:=((K.T t).job+1)%4294967296,st:=1 }).tell c 6 t 0 (((K.T t).job+1)%4294967296)).R t (K.T t).lev.toNat }
  else (K.setT t { K.T t with late:=min ((K.T t).late+1) 255 }).tell c 7 t 0 (min ((K.T t).late+1) 255)).T t).st<7):=by
  by_cases e:(K.T t).st=0
  ·rw [if_pos e];have hj:=hT.job;have hlate:=h.iv.idle t ht e;have hv:((((K.T t).job+1)%4294967296).toNat:Int)=((K.T t).job+1)%4294967296:=by omega
   have hr:zob A 6 ((t:Int)).toNat ((0:Int)).toNat (((K.T t).job+1)%4294967296).toNat false=true:=by
    rw [Int.toNat_natCast];show (decide ((z4y A t).st=0) && decide ((((K.T t).job+1)%4294967296).toNat=((z4y A t).job+1)%4294967296))=true;rw [tg.st,e,Bool.and_eq_true,decide_eq_true_eq,decide_eq_true_eq];refine ⟨rfl,?_⟩;have:=tg.job;omega
   refine ⟨⟨after A (K.setT t { K.T t with job:=((K.T t).job+1)%4294967296,st:=1 }) 6 t 0 (((K.T t).job+1)%4294967296),?_,?_,?_,?_⟩,?_⟩
   ·exact zt6 (K:=K.setT t { K.T t with job:=((K.T t).job+1)%4294967296,st:=1 }) hf h.rn h.due (by decide) hr
   ·rw [zsZ h.due];exact h.due
   ·rw [zsZ h.due,Int.toNat_natCast];refine ztY h.ag hn ht (x:={ K.T t with job:=((K.T t).job+1)%4294967296,st:=1 }) (y:={ z4y A t with st:=1,job:=(((K.T t).job+1)%4294967296).toNat,late:=max ((z4y A t).late-1) 0 }) ?_ ?_ ?_ ?_ ?_ rfl rfl rfl rfl rfl
    ·refine ⟨rfl,?_,fun g=>absurd (show (2:Int)≤1 from g) (by decide),hv,tg.lev⟩;show max ((z4y A t).late-1) 0=(K.T t).late;rw [tg.late,hlate];rfl
    ·show (Kn.tell _ c 6 _ _ _).T=_;rw [z01];rfl
    ·show (Kn.tell _ c 6 _ _ _).L.ow=_;rw [zbe];rfl
    ·show (Kn.tell _ c 6 _ _ _).ln=_;rw [zld];rfl
    ·show (Kn.tell _ c 6 _ _ _).run=_;rw [ziI];rfl
   ·refine zu2 h.iv (t:=t) (x:={ K.T t with job:=((K.T t).job+1)%4294967296,st:=1 }) ?_ ?_ (fun u l hu hl=>⟨l,?_⟩) (fun _=>?_) (fun g=>absurd (show (1:Int)=0 from g) (by decide)) (fun u hu _ g=>?_) (fun _=>by show (1:Int)<7;decide) (fun g=>absurd g (zt9 hI ht (by omega))) (fun g=>absurd (show (1:Int)=2 from g) (by decide))
    ·show (Kn.tell _ c 6 _ _ _).T=_;rw [z01];rfl
    ·show (Kn.tell _ c 6 _ _ _).L=_;rw [zbe];rfl
    ·exact zu4 (by rw [zgF];exact hl)
    ·exact ztJ (by omega) (by have:=hT.lev;omega)
    ·have g:has (Kn.tell (K.setT t { K.T t with job:=((K.T t).job+1)%4294967296,st:=1 }) c 6 t 0 (((K.T t).job+1)%4294967296)).S u:=g;rw [z3V] at g;exact g
   ·show ((Kn.tell _ c 6 _ _ _).T t).st<7;rw [z01,z2U,if_pos rfl];show (1:Int)<7;decide
  ·rw [if_neg e];have hlt:=hT.late;have hv:((min ((K.T t).late+1) 255).toNat:Int)=min ((K.T t).late+1) 255:=by omega
   have hso:zv0 (K.T t).st≠0∧zv0 (K.T t).st≠3:=by
    unfold zv0;rw [if_neg e];split
    ·decide
    ·rw [if_pos (by omega)];decide
   have hr:zob A 7 ((t:Int)).toNat ((0:Int)).toNat (min ((K.T t).late+1) 255).toNat false=true:=by
    rw [Int.toNat_natCast];show (decide ((z4y A t).st≠0∧(z4y A t).st≠3) && decide (((min ((K.T t).late+1) 255).toNat:Int)=min ((z4y A t).late+1) 255))=true;rw [tg.st,tg.late,Bool.and_eq_true,decide_eq_true_eq,decide_eq_true_eq];exact ⟨hso,hv⟩
   refine ⟨⟨after A (K.setT t { K.T t with late:=min ((K.T t).late+1) 255 }) 7 t 0 (min ((K.T t).late+1) 255),?_,?_,?_,?_⟩,?_⟩
   ·exact zt6 (K:=K.setT t { K.T t with late:=min ((K.T t).late+1) 255 }) hf h.rn h.due (by decide) hr
   ·rw [zsZ h.due];exact h.due
   ·rw [zsZ h.due,Int.toNat_natCast];refine ztY h.ag hn ht (x:={ K.T t with late:=min ((K.T t).late+1) 255 }) (y:={ z4y A t with late:=((min ((K.T t).late+1) 255).toNat:Int) }) ⟨tg.st,hv,tg.on,tg.job,tg.lev⟩ ?_ ?_ ?_ ?_ rfl rfl rfl rfl rfl
    ·rw [z01];rfl
    ·rw [zbe];rfl
    ·rw [zld];rfl
    ·rw [ziI];rfl
   ·refine zu2 h.iv (t:=t) (x:={ K.T t with late:=min ((K.T t).late+1) 255 }) ?_ ?_ (fun u l hu hl=>⟨l,?_⟩) (fun g=>?_) (fun g=>absurd g e) (fun u hu _ g=>?_) (fun _=>hs) (fun g=>h.iv.mon t ht g) (fun g=>h.iv.slp t ht g)
    ·rw [z01];rfl
    ·rw [zbe];rfl
    ·rw [zgF];exact hl
    ·rw [zgF];exact h.iv.rall t ht g
    ·rw [z3V] at g;exact g
   ·rw [z01,z2U,if_pos rfl];exact hs
 unfold Kn.release;dsimp only;obtain ⟨⟨B,hB⟩,hs7⟩:=key
 split
 ·refine ⟨B,hB.setS2 fun u hu g=>?_⟩
  rcases zc8 g with e | g
  ·have e:u=t:=by omega
   subst e;exact .inr hs7
  ·exact .inl g
 ·exact ⟨B,hB⟩
theorem Kp.over (hf:c.filter=4294967295) (h:Kp A0 c K A) (hI:Inv c K) {id:Int} (hp:z3P c K id) (hl:id<64→(K.T id.toNat).st<7):∃ B,Kp A0 c (K.over c id) B:=by
 obtain ⟨a,b,d,e⟩:=hp;unfold Kn.over
 split
 ·rename_i l;exact h.release hf hI (by have:=b l;omega) (hl l)
 ·split
  ·rename_i l m;exact h.timeout hf hI (by have:=d (by omega) m;omega) (d (by omega) m).2
  ·rename_i l m
   have ht:=hI.cf.timers (lg c.timers (id-128).toNat) (by
    have:(id-128).toNat<c.timers.length:=by have:=e (by omega);omega
    unfold lg;simp [List.getD,this])
   have hs:(lg c.timers (id-128).toNat).toNat<c.sems.length:=by omega
   have h1:=h.say hf (kd:=18) (a:=id-128) (b:=0) (v:=0) rfl rfl;have i1:=zl hI 18 (id-128) 0 0;have ha:zcz (after A K 18 (id-128) 0 0) ((80:Int)).toNat=true:=rfl;dsimp only
   split
   ·rename_i hne
    have e1:(K.tell c 18 (id-128) 0 0).post c 80 (lg c.timers (id-128).toNat).toNat=K.tell c 18 (id-128) 0 0:=by
     unfold Kn.post;exact if_pos hne
    rw [e1];exact ⟨_,h1.say hf (kd:=23) (a:=80) (b:=(K.tell c 18 (id-128) 0 0).postE (lg c.timers (id-128).toNat).toNat) (v:=26) rfl ha⟩
   ·exact h1.post hf i1 ha hs
theorem zuQ {K K':Kn} (m:z6f K K') {id:Int} (h:id<64→(K.T id.toNat).st<7):id<64→(K'.T id.toNat).st<7:=fun l=>by
 rcases m id.toNat with e | e
 ·rw [e];exact h l
 ·rw [e];decide
theorem Kp.overs (hf:c.filter=4294967295):∀ (l:List Int) {K:Kn} {A:Au},Kp A0 c K A→Inv c K→(∀ id∈l,z3P c K id∧(id<64→(K.T id.toNat).st<7))→∃ B,Kp A0 c (l.foldl (fun K id=>K.over c id) K) B
 | [],K,A,h,_,_=>⟨A,h⟩
 | id::l,K,A,h,hI,hp=>by
  have h0:=hp id (List.mem_cons_self ..);obtain ⟨B,hB⟩:=h.over hf hI h0.1 h0.2;exact Kp.overs hf l hB (zcX hI h0.1) fun x hx=>⟨z7r (z7j id) (hp x (List.mem_cons_of_mem _ hx)).1,zuQ (z7j id) (hp x (List.mem_cons_of_mem _ hx)).2⟩
theorem Kp.tick (hf:c.filter=4294967295) (h:Kp A0 c K A) (hI:Inv c K) (hfl:¬ K.full) (hz:K.stopped=false):∃ B,Kp A0 c (K.tick c) B:=by
 rw [z9J hfl hz];refine Kp.overs hf _ (A:=A) ?_ (z5p hI hfl) fun id hid=>⟨z5y hI hid,fun l=>?_⟩
 ·exact h.sim rfl rfl rfl rfl (fun _=>.refl _) (fun t l hl=>⟨l,hl⟩) (fun _ _ g=>ziK g) ⟨rfl,rfl⟩
 ·obtain ⟨a,b,_,_⟩:=hI.clk id (zi8 hid);have:=h.iv.live id.toNat (by have:=b l;omega) (by rw [show ((id.toNat:Nat):Int)=id by omega];exact zi8 hid);exact this
end
section
variable {c:Cf} {K K':Kn} {A0 A B:Au}
theorem Kp.refuse (hf:c.filter=4294967295) (h:Kp A0 c K A) {who:Nat} (ha:zcz A who=true) (i:Ins) (e:Int):∃ B,Kp A0 c (K.refuse c who i e) B:=by
 have h1:=h.say hf (kd:=23) (a:=(who:Int)) (b:=e) (v:=i.op) rfl (by rw [Int.toNat_natCast];exact ha);exact ⟨_,h1.put who i.a e⟩
theorem Kp.holdP (hf:c.filter=4294967295) (h:Kp A0 c K A) (hI:Inv c K) {t:Nat} (ht:t<c.ts.length) (hst:(K.T t).st=1) (ha:zcz A t=true) {S:List Ck} (hS:∀ u:Nat,u<c.ts.length→has S u→has K.S u) {status on:Int} (hs:2≤status∧status≤6) (h2:status=2→on=0) (ho:on=0∨64≤on) (i:Ins) :
  ∃ B,Kp A0 c (({ K with S:=S }:Kn).hold c t status on i) B :=
 h.hold (L:=K.L) hf hI ht ha rfl (fun _ _ _ _=>rfl) (fun e=>absurd e (zt9 hI ht (by omega))) hS hs h2 (by omega) (fun _ _=>by omega) i
theorem Kp.send (hf:c.filter=4294967295) (h:Kp A0 c K A) (hI:Inv c K) {who:Nat} (hw:z3u c who) (hst:who<64→(K.T who).st=1) (ha:zcz A who=true) {i:Ins} (hi:zI i) (hm:64≤who→i.d=1) (hq:i.k<c.queues.length):∃ B,Kp A0 c (K.send c who i) B:=by
 have hk:((i.k.toNat:Nat):Int)=i.k:=by have:=hi.k.1;omega
 have hlt:i.k.toNat<c.queues.length:=by omega
 have hQ:=hI.ml _ hlt;have hn:=hI.cf.nt;unfold Kn.send;dsimp only
 split
 ·split
  ·exact h.refuse hf ha i _
  ·rename_i hd
   split
   ·have ht:who<64:=by
     rcases Nat.lt_or_ge who 64 with a | a
     ·exact a
     ·exact absurd (hm a) hd
    have htl:who<c.ts.length:=by rcases hw with a | a;exact a.2;omega
    obtain ⟨B,hB⟩:=h.holdP (S:=K.S) hf hI htl (hst ht) ha (fun _ _ g=>g) (status:=5) (on:=96+i.k) (by decide) (by omega) (by have:=hi.k.1;omega) i;exact ⟨B,hB.setMl _⟩
   ·exact h.refuse hf ha i _
 ·have h1:=((h.setMl (upd K.ml i.k.toNat ((K.ml i.k.toNat).send K.L.now (K.reg who i.b)))).put who i.a 0).say hf (kd:=16) (a:=(who:Int)) (b:=i.k) (v:=K.reg who i.b) rfl (by
   rw [Int.toNat_natCast];show (_ || zcz A who)=true;rw [ha,Bool.or_true])
  split
  ·exact ⟨_,h1⟩
  ·rename_i hne
   have hR:(K.ml i.k.toNat).R≠[]:=by
    intro e;apply hne;unfold Mq.sendT;simp [e]
   have e1:(K.ml i.k.toNat).sendT K.L.now=zD K.L.now (K.ml i.k.toNat).R:=by unfold Mq.sendT;rw [if_pos hR]
   have hb:=z1n K.L.now _ hR;rw [e1];obtain ⟨g1,g2,g3⟩:=hI.mlr _ hlt _ hb;have g0:=(hQ.1.r.2 _ hb).1;generalize hg:zD K.L.now (K.ml i.k.toNat).R=g at *;obtain ⟨u,rfl⟩:∃ u:Nat,g=u:=⟨g.toNat,by omega⟩;simp only [Int.toNat_natCast] at *;have hul:u<c.ts.length:=by omega
   generalize hK:Kn.tell (Kn.put { K with ml:=upd K.ml i.k.toNat ((K.ml i.k.toNat).send K.L.now (K.reg who i.b)) } who i.a 0) c 16 who i.k (K.reg who i.b)=K1 at h1 ⊢;generalize hA1:after A (Kn.put { K with ml:=upd K.ml i.k.toNat ((K.ml i.k.toNat).send K.L.now (K.reg who i.b)) } who i.a 0) 16 who i.k (K.reg who i.b)=A1 at h1;have hst1:(K1.T u).st=6∧(K1.T u).on=128+i.k∧(K1.T u).lev=(K.T u).lev:=by
    rw [← hK,z01,(zt5 _ _ _ _).st,(zt5 _ _ _ _).on,(zt5 _ _ _ _).lev];exact ⟨g2,by show (K.T u).on=_;rw [g3];omega,rfl⟩
   have hL1:K1.L=K.L:=by rw [← hK,zbe,zms]
   have tg:=h1.ag.ts u hul;have h2:=(h1.put u (K1.call c u).b (K.reg who i.b)).say hf (kd:=17) (a:=(u:Int)) (b:=i.k) (v:=K.reg who i.b) rfl (by
    rw [Int.toNat_natCast];show (decide (u<64∧(z4y A1 u).st=2∧(z4y A1 u).on=128+i.k.toNat) || _)=true;have e2:(z4y A1 u).st=2:=by rw [tg.st];exact zti (by omega)
    have e3:=tg.on (by omega) (by omega);rw [decide_eq_true (show u<64∧(z4y A1 u).st=2∧(z4y A1 u).on=128+i.k.toNat from ⟨by omega,e2,by omega⟩),Bool.true_or])
   refine Kp.wake hf hn h2 hul ?_ ?_ ?_ 0 (.inr ?_)
   ·rw [z01,(zt5 _ _ _ _).lev,hst1.2.2];exact (hI.T u hul).lev
   ·rw [zbe,zms,hL1];exact zt9 hI hul (by omega)
   ·rw [z01,(zt5 _ _ _ _).st,hst1.1];decide
   ·rw [z01,(zt5 _ _ _ _).on,hst1.2.1];omega
theorem Kp.recv (hf:c.filter=4294967295) (h:Kp A0 c K A) (hI:Inv c K) {who:Nat} (hw:z3u c who) (hst:who<64→(K.T who).st=1) (ha:zcz A who=true) {i:Ins} (hi:zI i) (hm:64≤who→i.d=1) (hq:i.k<c.queues.length):∃ B,Kp A0 c (K.recv c who i) B:=by
 have hk:((i.k.toNat:Nat):Int)=i.k:=by have:=hi.k.1;omega
 have hlt:i.k.toNat<c.queues.length:=by omega
 have hQ:=hI.ml _ hlt;have hn:=hI.cf.nt;unfold Kn.recv;dsimp only
 split
 ·split
  ·exact h.refuse hf ha i _
  ·rename_i hd
   split
   ·have ht:who<64:=by
     rcases Nat.lt_or_ge who 64 with a | a
     ·exact a
     ·exact absurd (hm a) hd
    have htl:who<c.ts.length:=by rcases hw with a | a;exact a.2;omega
    obtain ⟨B,hB⟩:=h.holdP (S:=K.S) hf hI htl (hst ht) ha (fun _ _ g=>g) (status:=6) (on:=128+i.k) (by decide) (by omega) (by have:=hi.k.1;omega) i;exact ⟨B,hB.setMl _⟩
   ·exact h.refuse hf ha i _
 ·have h1:=(((h.setMl (upd K.ml i.k.toNat ((K.ml i.k.toNat).recv K.L.now))).put who i.b (K.ml i.k.toNat).recvV).put who i.a 0).say hf (kd:=17) (a:=(who:Int)) (b:=i.k) (v:=(K.ml i.k.toNat).recvV) rfl (by
   rw [Int.toNat_natCast];show (_ || zcz A who)=true;rw [ha,Bool.or_true])
  split
  ·exact ⟨_,h1⟩
  ·rename_i hne
   have hS:¬ ((K.ml i.k.toNat).n=0∨(K.ml i.k.toNat).S=[]):=by
    intro e;apply hne;unfold Mq.recvT;rw [if_pos e]
   have e1:(K.ml i.k.toNat).recvT K.L.now=zD K.L.now (K.ml i.k.toNat).S:=by unfold Mq.recvT;rw [if_neg hS]
   have hb:=z1n K.L.now (K.ml i.k.toNat).S (fun e=>hS (.inr e));rw [e1];obtain ⟨g1,g2,g3⟩:=hI.mls _ hlt _ hb;have g0:=(hQ.1.s.2 _ hb).1;generalize hg:zD K.L.now (K.ml i.k.toNat).S=g at *;obtain ⟨u,rfl⟩:∃ u:Nat,g=u:=⟨g.toNat,by omega⟩;simp only [Int.toNat_natCast] at *;have hul:u<c.ts.length:=by omega
   generalize hK:Kn.tell (((Kn.put { K with ml:=upd K.ml i.k.toNat ((K.ml i.k.toNat).recv K.L.now) } who i.b (K.ml i.k.toNat).recvV)).put who i.a 0) c 17 who i.k (K.ml i.k.toNat).recvV=K1 at h1 ⊢;generalize hA1:after A (((Kn.put { K with ml:=upd K.ml i.k.toNat ((K.ml i.k.toNat).recv K.L.now) } who i.b (K.ml i.k.toNat).recvV)).put who i.a 0) 17 who i.k (K.ml i.k.toNat).recvV=A1 at h1;have hst1:(K1.T u).st=5∧(K1.T u).on=96+i.k∧(K1.T u).lev=(K.T u).lev:=by
    rw [← hK,z01,(zt5 _ _ _ _).st,(zt5 _ _ _ _).on,(zt5 _ _ _ _).lev,(zt5 _ _ _ _).st,(zt5 _ _ _ _).on,(zt5 _ _ _ _).lev];exact ⟨g2,by show (K.T u).on=_;rw [g3];omega,rfl⟩
   have hL1:K1.L=K.L:=by rw [← hK,zbe,zms,zms]
   have tg:=h1.ag.ts u hul;have h2:=h1.say hf (kd:=16) (a:=(u:Int)) (b:=i.k) (v:=(K1.T u).rg.get (K1.call c u).b.toNat) rfl (by
    rw [Int.toNat_natCast];show (decide (u<64∧(z4y A1 u).st=2∧(z4y A1 u).on=96+i.k.toNat) || _)=true;have e2:(z4y A1 u).st=2:=by rw [tg.st];exact zti (by omega)
    have e3:=tg.on (by omega) (by omega);rw [decide_eq_true (show u<64∧(z4y A1 u).st=2∧(z4y A1 u).on=96+i.k.toNat from ⟨by omega,e2,by omega⟩),Bool.true_or])
   refine Kp.wake hf hn h2 hul ?_ ?_ ?_ 0 (.inr ?_)
   ·rw [z01,hst1.2.2];exact (hI.T u hul).lev
   ·rw [zbe,hL1];exact zt9 hI hul (by omega)
   ·rw [z01,hst1.1];decide
   ·rw [z01,hst1.2.1];omega
end
section
variable {c:Cf} {K K':Kn} {A0 A B:Au}
theorem zuN {L:Lk} (hg:Good L) (t m:Int) {u:Nat} (hu:u≠t.toNat):z0N (z1B L t m) u=z0N L u:=by
 have e0:z0N (z1B L t m) u=lg (z0f L t m).2.2.on u:=rfl;rw [e0]
 rcases z1C L hg t m with ⟨e,_⟩ | ⟨a,b,d,e,f,g,h⟩ | ⟨a,b,d,e,f,g,i,j,h⟩
 ·rw [e];rfl
 ·rw [h];rfl
 ·rw [h];have ht:t.toNat<L.on.length:=by rw [hg.fit.lo];omega
  have:=z3j (L:=L) (m:=m.toNat) ht u;rw [if_neg hu] at this;exact this
theorem Kp.lock (hf:c.filter=4294967295) (h:Kp A0 c K A) (hI:Inv c K) {t:Nat} (ht:t<c.ts.length) (hc:z20 c K t) (ha:zcz A t=true) {i:Ins} (hi:zI i) (hd:i.d=0):∃ B,Kp A0 c (K.lock c t i) B:=by
 have hn:=hI.cf.nt;have hmu:=hI.cf.mu;have hLm:=hI.Lm;have hk0:=hi.k.1;unfold Kn.lock;dsimp only
 rcases z1C K.L hI.L t i.k with ⟨_,e⟩ | ⟨a,b,d,e,f,g,hh⟩ | ⟨a,b,d,e,f,g,j,_,hh⟩
 ·rw [if_pos e];exact h.refuse hf ha i _
 ·rw [if_neg (by rw [hh];simp),if_pos (by rw [hh])];have hm:i.k.toNat<K.L.ow.length:=by omega
  have hm32:i.k.toNat<32:=by omega
  have eo:(z1B K.L t i.k).ow=K.L.ow.set i.k.toNat (t:Int):=by
   unfold z1B;rw [hh];show K.L.ow.set i.k.toNat (((t:Int).toNat:Nat):Int)=_;rw [Int.toNat_natCast]
  have en:(z1B K.L t i.k).on=K.L.on:=by unfold z1B;rw [hh];rfl
  have hr:zob A 12 ((t:Int)).toNat i.k.toNat ((0:Int)).toNat false=true:=by
   rw [Int.toNat_natCast];show (decide (Go.Au.z3O A i.k.toNat=0) && (false || zcz A t))=true;have:Go.Au.z3O A i.k.toNat=0:=by rw [h.ag.ow _ hm32];unfold zuj;rw [if_pos hm,if_pos f]
   rw [this,ha];rfl
  have h1:Kp A0 c (K.put t i.a 0) A:=h.put t i.a 0;have ep:Kn.put { K with L:=z1B K.L t i.k } t i.a 0={ K.put t i.a 0 with L:=z1B K.L t i.k }:=by
   unfold Kn.put;split<;>rfl
  rw [ep];refine ⟨after A { K.put t i.a 0 with L:=z1B K.L t i.k } 12 t i.k 0,?_,?_,?_,?_⟩
  ·exact zt6 (K:={ K.put t i.a 0 with L:=z1B K.L t i.k }) hf h1.rn h.due (by decide) hr
  ·rw [zsZ h.due];exact h.due
  ·refine AgK.told ?_ _ _ _ _;rw [zsZ h.due,Int.toNat_natCast];show Ag _ (K.put t i.a 0).ln.active (fun j=>(K.put t i.a 0).ln.pending.testBit j) (K.put t i.a 0).run (K.put t i.a 0).T (z1B K.L t i.k).ow _;rw [eo];have h2:Ag c.ts.length (K.put t i.a 0).ln.active (fun j=>(K.put t i.a 0).ln.pending.testBit j) (K.put t i.a 0).run (K.put t i.a 0).T K.L.ow A:=by have:=h1.ag;rw [AgK,zms] at this;exact this
   have a4:=ztP h2 hm hm32 (t:Int);rw [if_neg (by omega)] at a4;exact a4.same rfl rfl rfl rfl rfl
  ·refine Iv2.told ?_ _ _ _ _;exact h1.iv.sim (fun _=>.refl _) (fun t l hl=>⟨l,hl⟩) (fun _ _ g=>g) (by show (z1B K.L t i.k).on=_;rw [zms,en])
 ·rw [if_neg (by rw [hh];simp),if_neg (by rw [hh];simp)];have hm:i.k.toNat<K.L.ow.length:=by omega
  have eo:(z1B K.L t i.k).ow=K.L.ow:=by unfold z1B;rw [hh];rfl
  have eon:z0N (z1B K.L t i.k) t=i.k:=by
   have e0:z0N (z1B K.L t i.k) t=lg (z0f K.L t i.k).2.2.on t:=rfl;rw [e0,hh];have htl:t<K.L.on.length:=by rw [hI.L.fit.lo,hI.Ln];exact ht
   have:=z3j (L:=K.L) (t:=t) (m:=i.k.toNat) htl t;rw [if_pos rfl] at this;have e1:lg (z32 K.L i.k.toNat ((t:Int)).toNat).on t=((i.k.toNat:Nat):Int):=by rw [Int.toNat_natCast];exact this
   show lg (z32 K.L i.k.toNat ((t:Int)).toNat).on t=i.k;rw [e1];omega
  have howr:=(hI.L.fit.owr i.k.toNat hm).resolve_left f;have how:zuj K.L.ow (32+i.k-32).toNat=lg K.L.ow i.k.toNat+1:=by
   rw [show (32+i.k-32).toNat=i.k.toNat by omega];unfold zuj;rw [if_pos hm,if_neg f]
  have howr0:0≤lg K.L.ow i.k.toNat:=howr.1;obtain ⟨B,hB⟩:=h.hold (L:=z1B K.L t i.k) (S:=K.S) hf hI ht ha eo (fun u _ hu _=>zuN hI.L t i.k (by rw [Int.toNat_natCast];exact hu)) (status:=3) (on:=32+i.k) (fun _=>by rw [eon]) (fun _ _ g=>g) (by decide) (by omega) (by omega) (fun _ _=>by rw [how];exact ⟨by omega,by omega⟩) i;exact hB.relev hf hn (by rw [zjc];exact z5j hI.L t i.k) (by rw [zjc];exact (congrArg List.length (zaD hI.L t i.k).1).trans hI.Ln) _ (Nat.le_refl _)
theorem Kp.unlock (hf:c.filter=4294967295) (h:Kp A0 c K A) (hI:Inv c K) {t:Nat} (ht:t<c.ts.length) (ha:zcz A t=true) (i:Ins):∃ B,Kp A0 c (K.unlock c t i) B:=by
 have hn:=hI.cf.nt;unfold Kn.unlock;dsimp only
 split
 ·exact h.refuse hf ha i _
 ·rename_i he
  have ep:Kn.put { K with L:=zE K.L t i.k } t i.a 0={ K.put t i.a 0 with L:=zE (K.put t i.a 0).L t i.k }:=by
   unfold Kn.put;split<;>rfl
  have eg:(Kn.put { K with L:=zE K.L t i.k } t i.a 0).handed c t i.k (zi K.L t i.k).1=(K.put t i.a 0).give c t i.k:=by
   rw [ep];unfold Kn.give;rw [zms]
  rw [eg];have he:(zi K.L t i.k).2.1=0:=Classical.not_not.1 he;have iP:=z0v hI (zey hI ht) i.a (v:=0) ⟨by simp,by simp⟩;have hcs:0≤i.k∧i.k<K.L.ow.length∧lg K.L.ow i.k.toNat=t:=by
   rcases z0D K.L hI.L t i.k with ⟨_,e,_⟩ | ⟨a,b,d,e,f,_⟩ | ⟨a,b,d,e,f,_⟩
   ·exact absurd he e
   ·exact ⟨d,e,f⟩
   ·exact ⟨d,e,f⟩
  obtain ⟨⟨B,hB⟩,_⟩:=(h.put t i.a 0).give hf iP ht (m:=i.k) (by rw [zms];exact ⟨hcs.1,hcs.2.1⟩) (by rw [zms];exact hcs.2.2) (.inr ha);have i2:=z6n iP t i.k;exact hB.relev hf hn i2.L i2.Ln _ (Nat.le_refl _)
theorem Kp.await (hf:c.filter=4294967295) (h:Kp A0 c K A) (hI:Inv c K) {t:Nat} (ht:t<c.ts.length) (hst:(K.T t).st=1) (ha:zcz A t=true) {i:Ins} (hi:zI i):∃ B,Kp A0 c (K.await c t i) B:=by
 have hk0:=hi.k.1;unfold Kn.await;dsimp only
 split
 ·exact h.refuse hf ha i _
 split
 ·exact ⟨_,((h.setSm (upd K.sm i.k.toNat (z2W (K.sm i.k.toNat).1,(K.sm i.k.toNat).2))).put t i.a 0).say hf (kd:=15) (a:=(t:Int)) (b:=i.k) (v:=z2W (K.sm i.k.toNat).1) rfl (by rw [Int.toNat_natCast];exact ha)⟩
 split
 ·exact h.refuse hf ha i _
 split
 ·obtain ⟨B,hB⟩:=h.holdP (S:=K.S) hf hI ht hst ha (fun _ _ g=>g) (status:=4) (on:=64+i.k) (by decide) (by omega) (by omega) i;exact ⟨B,hB.setSm _⟩
 ·exact h.refuse hf ha i _
theorem Kp.sleep (hf:c.filter=4294967295) (h:Kp A0 c K A) (hI:Inv c K) {t:Nat} (ht:t<c.ts.length) (hst:(K.T t).st=1) (ha:zcz A t=true) (i:Ins):∃ B,Kp A0 c (K.sleep c t i) B:=by
 have hn:=hI.cf.nt;unfold Kn.sleep;dsimp only
 split
 ·exact ⟨A,h.put _ _ _⟩
 split
 ·exact h.refuse hf ha i _
 ·exact h.holdP hf hI ht hst ha (fun u hu g=>by
   rcases zc8 g with e | g
   ·omega
   ·exact g) (status:=2) (on:=0) (by decide) (fun _=>rfl) (.inl rfl) i
theorem Kp.next (hf:c.filter=4294967295) (h:Kp A0 c K A) (hI:Inv c K) {t:Nat} (ht:t<c.ts.length) (hst:(K.T t).st=1) (ha:zcz A t=true):∃ B,Kp A0 c (K.next c t) B:=by
 have hn:=hI.cf.nt;have hT:=hI.T t ht;have tg:=h.ag.ts t ht;have hj:=hT.job;have hlt:=hT.late;have hr:zob A 8 ((t:Int)).toNat ((0:Int)).toNat (K.T t).job.toNat false=true:=by
  rw [Int.toNat_natCast];show (zcz A t && decide ((K.T t).job.toNat=(z4y A t).job))=true;rw [ha,Bool.true_and,decide_eq_true_eq];have:=tg.job;omega
 have r1:=zt6 (K:=K) (a:=(t:Int)) (b:=0) (v:=(K.T t).job) hf h.rn h.due (by decide) hr;have e8:=zsZ (K:=K) h.due 8 (t:Int) 0 (K.T t).job;rw [Int.toNat_natCast] at e8;have e8':after A K 8 (t:Int) 0 (K.T t).job={ setT A t { z4y A t with st:=0 } with due:=if (z4y A t).late > 0 then ⟨6,t,0⟩ else A.due,last:=⟨8,K.cycle,K.count,t,0,(K.T t).job.toNat⟩,seen:=A.seen+1 }:=e8;have hl:t<A.ts.length:=by rw [h.ag.lt];omega
 unfold Kn.next;dsimp only
 split
 ·rename_i hla
  have d1:(after A K 8 (t:Int) 0 (K.T t).job).due=⟨6,t,0⟩:=by
   rw [e8'];show (if (z4y A t).late > 0 then (⟨6,t,0⟩:Du) else A.due)=_;rw [if_pos (by rw [tg.late];exact hla)]
  have ts1:(after A K 8 (t:Int) 0 (K.T t).job).ts=A.ts.set t { z4y A t with st:=0 }:=by rw [e8'];rfl
  have hv:((((K.T t).job+1)%4294967296).toNat:Int)=((K.T t).job+1)%4294967296:=by omega
  have tk1:∀ X:Au,X.ts=A.ts.set t { z4y A t with st:=0 }→z4y X t={ z4y A t with st:=0 }:=fun X e=>by
   unfold z4y;rw [e,ztW _ _ _ _ hl,if_pos rfl];rfl
  have r2:=zuS (K:=(K.tell c 8 t 0 (K.T t).job).setT t { K.T t with late:=(K.T t).late-1,job:=((K.T t).job+1)%4294967296 }) (kd:=6) (a:=(t:Int)) (b:=0) (v:=((K.T t).job+1)%4294967296) hf r1 (by rw [d1,Int.toNat_natCast];rfl) (by decide) (by
   rw [Int.toNat_natCast];show (decide ((z4y { after A K 8 (t:Int) 0 (K.T t).job with due:=du0 } t).st=0) && decide ((((K.T t).job+1)%4294967296).toNat=((z4y { after A K 8 (t:Int) 0 (K.T t).job with due:=du0 } t).job+1)%4294967296))=true;rw [tk1 { after A K 8 (t:Int) 0 (K.T t).job with due:=du0 } ts1,Bool.and_eq_true,decide_eq_true_eq,decide_eq_true_eq];refine ⟨rfl,?_⟩;show (((K.T t).job+1)%4294967296).toNat=((z4y A t).job+1)%4294967296;have:=tg.job;omega)
  have e6:=ztg (A:=after A K 8 (t:Int) 0 (K.T t).job) (K:=(K.tell c 8 t 0 (K.T t).job).setT t { K.T t with late:=(K.T t).late-1,job:=((K.T t).job+1)%4294967296 }) 6 (t:Int) 0 (((K.T t).job+1)%4294967296);rw [Int.toNat_natCast] at e6;refine ⟨_,r2,by rw [e6];rfl,?_,?_⟩
  ·rw [e6];refine ztY h.ag hn ht (x:={ K.T t with late:=(K.T t).late-1,job:=((K.T t).job+1)%4294967296 }) (y:={ z4y A t with st:=1,job:=(((K.T t).job+1)%4294967296).toNat,late:=max ((z4y A t).late-1) 0 }) ?_ ?_ ?_ ?_ ?_ ?_ (by rw [e8'];rfl) (by rw [e8'];rfl) (by rw [e8'];rfl) (by rw [e8'];rfl)
   ·refine ⟨by show (1:Int)=zv0 (K.T t).st;rw [hst];rfl,?_,fun g=>absurd (show 2≤(K.T t).st from g) (by omega),hv,tg.lev⟩;show max ((z4y A t).late-1) 0=(K.T t).late-1;rw [tg.late];omega
   ·rw [z01];show upd (K.tell c 8 t 0 (K.T t).job).T t _=_;rw [z01]
   ·rw [zbe];show (K.tell c 8 t 0 (K.T t).job).L.ow=_;rw [zbe]
   ·rw [zld];show (K.tell c 8 t 0 (K.T t).job).ln=_;rw [zld]
   ·rw [ziI];show (K.tell c 8 t 0 (K.T t).job).run=_;rw [ziI]
   ·show (after A K 8 (t:Int) 0 (K.T t).job).ts.set t { z4y { after A K 8 (t:Int) 0 (K.T t).job with due:=du0 } t with st:=1,job:=(((K.T t).job+1)%4294967296).toNat,late:=max ((z4y { after A K 8 (t:Int) 0 (K.T t).job with due:=du0 } t).late-1) 0 }=_;rw [tk1 { after A K 8 (t:Int) 0 (K.T t).job with due:=du0 } ts1,ts1,List.set_set]
  ·refine zu2 h.iv (t:=t) (x:={ K.T t with late:=(K.T t).late-1,job:=((K.T t).job+1)%4294967296 }) ?_ ?_ (fun u l hu hl=>⟨l,?_⟩) (fun _=>?_) (fun g=>absurd (show (K.T t).st=0 from g) (by omega)) (fun u hu _ g=>?_) (fun _=>by show (K.T t).st<7;omega) (fun g=>absurd g (zt9 hI ht (by omega))) (fun g=>absurd (show (K.T t).st=2 from g) (by omega))
   ·rw [z01];show upd (K.tell c 8 t 0 (K.T t).job).T t _=_;rw [z01]
   ·rw [zbe];show (K.tell c 8 t 0 (K.T t).job).L=_;rw [zbe]
   ·rw [zgF];show u∈(K.tell c 8 t 0 (K.T t).job).R l;rw [zgF];exact hl
   ·rw [zgF];show ∃ l,t∈(K.tell c 8 t 0 (K.T t).job).R l;rw [zgF];exact h.iv.rall t ht hst
   ·rw [z3V] at g;have g:has (K.tell c 8 t 0 (K.T t).job).S u:=g;rw [z3V] at g;exact g
 ·rename_i hla
  have hla0:(K.T t).late=0:=by omega
  refine ⟨_,r1,?_,?_,?_⟩
  ·rw [e8'];show (if (z4y A t).late > 0 then (⟨6,t,0⟩:Du) else A.due)=_;rw [if_neg (by rw [tg.late];omega)];exact h.due
  ·rw [e8'];refine ztY h.ag hn ht (x:={ K.T t with st:=0 }) (y:={ z4y A t with st:=0 }) ⟨rfl,tg.late,fun g=>absurd (show (2:Int)≤0 from g) (by decide),tg.job,tg.lev⟩ ?_ ?_ ?_ ?_ rfl rfl rfl rfl rfl
   ·show upd (K.tell c 8 t 0 (K.T t).job).T t _=_;rw [z01]
   ·show (K.tell c 8 t 0 (K.T t).job).L.ow=_;rw [zbe]
   ·show (K.tell c 8 t 0 (K.T t).job).ln=_;rw [zld]
   ·show (K.tell c 8 t 0 (K.T t).job).run=_;rw [ziI]
  ·refine zu2 h.iv (t:=t) (x:={ K.T t with st:=0 }) ?_ ?_ (fun u l hu hl=>⟨l,?_⟩) (fun g=>absurd (show (0:Int)=1 from g) (by decide)) (fun _=>hla0) (fun u hu _ g=>?_) (fun _=>by show (0:Int)<7;decide) (fun g=>absurd g (zt9 hI ht (by omega))) (fun g=>absurd (show (0:Int)=2 from g) (by decide))
   ·show upd (K.tell c 8 t 0 (K.T t).job).T t _=_;rw [z01]
   ·show (K.tell c 8 t 0 (K.T t).job).L=_;rw [zbe]
   ·show u∈z5F (K.tell c 8 t 0 (K.T t).job).R t l;rw [zgF];exact ztA hu hl
   ·have g:has (K.tell c 8 t 0 (K.T t).job).S u:=g;rw [z3V] at g;exact g
theorem Kp.timer (hf:c.filter=4294967295) (h:Kp A0 c K A) (hI:Inv c K) {who:Nat} (ha:zcz A who=true) {i:Ins} (hi:zI i):∃ B,Kp A0 c (K.timer c who i) B:=by
 have hn:=hI.cf.nt;have hk0:=hi.k.1;have hd:∀ u:Nat,u<c.ts.length→has (z33 (128+i.k) K.S) u→has K.S u:=fun u _ g=>(z8T.1 g).2;unfold Kn.timer;dsimp only
 split
 ·exact h.refuse hf ha i _
 ·refine ⟨_,(Kp.put ?_ _ _ _).say hf (kd:=19) (a:=(who:Int)) (b:=i.k) rfl (by rw [Int.toNat_natCast];exact ha)⟩
  by_cases e:i.op=29
  ·simp only [e,if_true];exact h.setS fun u hu g=>by
    rcases zc8 g with e | g
    ·omega
    ·exact hd u hu g
  ·simp only [e,if_false];exact h.setS hd
theorem Kp.shared (hf:c.filter=4294967295) (h:Kp A0 c K A) (hI:Inv c K) {who:Nat} (hw:z3u c who) (hst:who<64→(K.T who).st=1) (ha:zcz A who=true) {i:Ins} (hi:zI i) (hm:64≤who→i.op=27∨i.op=28→i.d=1) (value:Int):∃ B,Kp A0 c (K.shared c who i value) B:=by
 have hk0:=hi.k.1;unfold Kn.shared
 split
 ·exact ⟨_,((h.setRd _).put who i.a value).say hf (kd:=2) (a:=i.k) (b:=(who:Int)) (v:=value) rfl (by rw [Int.toNat_natCast];exact ha)⟩
 split
 ·exact ⟨_,h.say hf (kd:=20) (a:=i.k) (b:=(who:Int)) rfl (by rw [Int.toNat_natCast];exact ha)⟩
 split
 ·exact ⟨A,h.sim rfl rfl rfl rfl (fun _=>.refl _) (fun t l hl=>⟨l,hl⟩) (fun _ _ g=>g) ⟨rfl,rfl⟩⟩
 split
 ·exact ⟨A,h.put _ _ _⟩
 split
 ·exact ⟨A,h.put _ _ _⟩
 split
 ·split
  ·exact h.refuse hf ha i _
  split
  ·exact h.refuse hf ha i _
  ·obtain ⟨B,hB⟩:=h.post hf hI (who:=who) (by rw [Int.toNat_natCast];exact ha) (s:=i.k.toNat) (by omega);exact ⟨B,hB.put _ _ _⟩
 split
 ·rename_i ho
  split
  ·exact h.refuse hf ha i _
  split
  ·exact h.send hf hI hw hst ha hi (fun a=>hm a ho) (by omega)
  ·exact h.recv hf hI hw hst ha hi (fun a=>hm a ho) (by omega)
 split
 ·exact h.timer hf hI ha hi
 ·exact ⟨A,h⟩
theorem Kp.serveTask (hf:c.filter=4294967295) (h:Kp A0 c K A) (hI:Inv c K) {t:Nat} (ht:t<c.ts.length) (hc:z20 c K t) (ha:zcz A t=true) {i:Ins} (hi:zI i) (value:Int):∃ B,Kp A0 c (K.serveTask c t i value) B:=by
 unfold Kn.serveTask
 split
 ·rename_i e;exact h.lock hf hI ht hc ha hi (zeV hi.form (by rw [e];rfl))
 split
 ·exact h.unlock hf hI ht ha i
 split
 ·exact h.await hf hI ht hc.st ha hi
 split
 ·exact h.sleep hf hI ht hc.st ha i
 split
 ·exact ⟨A,h.sim rfl rfl rfl rfl (fun _=>.refl _) (fun t l hl=>zuP hl) (fun _ _ g=>g) ⟨rfl,rfl⟩⟩
 split
 ·exact h.next hf hI ht hc.st ha
 ·exact h.shared hf hI (zey hI ht) (fun _=>hc.st) ha hi (fun a=>by have:=hI.cf.nt;omega) value
end
theorem zun {n:Nat} {act:Int} {pend:Nat→Bool} {run:Int} {T:Nat→Ts} {ow:List Int} {A:Au} (h:Ag n act pend run T ow A) {m:Nat} (hm:m<16) (b:Bool) :
  Ag n act (fun j=>if j=m then b else pend j) run T ow { A with pn:=A.pn.set m b }:=by
 refine { h with lp:=by show (A.pn.set _ _).length=16;rw [List.length_set];exact h.lp,pn:=fun j hj=>?_ };show (A.pn.set m b).getD j false=if j=m then b else pend j;have hl:m<A.pn.length:=by rw [h.lp];exact hm
 by_cases e:j=m
 ·subst e;rw [if_pos rfl];simp [List.getD,hl]
 ·rw [if_neg e,← h.pn j hj];simp [List.getD,List.getElem?_set_ne (Ne.symm e)]
theorem Ag.congP {n:Nat} {act:Int} {p q:Nat→Bool} {run:Int} {T:Nat→Ts} {ow:List Int} {A:Au} (h:Ag n act p run T ow A) (e:∀ j,j<16→q j=p j):Ag n act q run T ow A :=
 { h with pn:=fun j hj=>by rw [e j hj];exact h.pn j hj }
section
variable {c:Cf} {K K':Kn} {A0 A B:Au}
theorem Kp.cost (h:Kp A0 c K A) (n:Int):Kp A0 c (K.cost n) A:=h.sim rfl rfl rfl rfl (fun _=>.refl _) (fun t l hl=>⟨l,hl⟩) (fun _ _ g=>g) ⟨rfl,rfl⟩
theorem Kp.putCx (h:Kp A0 c K A) (who:Nat) (x:Cx):Kp A0 c (K.putCx who x) A:=by
 unfold Kn.putCx
 split
 ·refine h.sim rfl rfl rfl rfl (fun u=>?_) (fun t l hl=>⟨l,hl⟩) (fun _ _ g=>g) ⟨rfl,rfl⟩;show ztE (K.T u) (upd K.T who { K.T who with at_:=x.at_,rg:=x.rg } u)
  by_cases e:u=who
  ·subst e;rw [zK];exact ⟨⟨rfl,rfl,rfl⟩,rfl,rfl⟩
  ·rw [zL _ _ e];exact .refl _
 ·exact h.sim rfl rfl rfl rfl (fun _=>.refl _) (fun t l hl=>⟨l,hl⟩) (fun _ _ g=>g) ⟨rfl,rfl⟩
theorem Kp.go (hf:c.filter=4294967295) (h:Kp A0 c K A) (hI:Inv c K) {t:Nat} (ht:t<c.ts.length) (hs:(K.T t).st=1) (ha0:zcz A t=true) (value:Int):∃ B,Kp A0 c (K.go c t value) B:=by
 have hn:=hI.cf.nt;have hT:=hI.T t ht;have ha:=hT.at_;have hrun:=hT.run (.inr hs);have hi:=z0k hI.cf ht ha.1;have hcf:=hI.cf.t t ht;unfold Kn.go;dsimp only;have i1:=zU hI (zT (z0j (tcg c t).code (K.T t).at_ 37));have k1:=h.cost (zT (z0j (tcg c t).code (K.T t).at_ 37));have hl:=z3H (l:=(tcg c t).code) (a:=(K.T t).at_) (last:=37) ha.1
 split
 ·rename_i hop
  rcases hl with ⟨g1,g2,g3⟩ | ⟨_,g2⟩
  ·have hck:=(hI.cf.tc t ht _ g3).1;have t64:t<64:=by omega
   have hcx:(K.cost (zT (z0j (tcg c t).code (K.T t).at_ 37))).cx t=⟨(K.T t).at_,(K.T t).rg,K.tm t⟩:=by unfold Kn.cx;rw [if_pos t64];rfl
   rw [hcx];have hok:=z6N hi (x:=⟨(K.T t).at_,(K.T t).rg,K.tm t⟩) ⟨hT.rg,(hI.tm t ht).2⟩;have hat:=zcI hi (x:=⟨(K.T t).at_,(K.T t).rg,K.tm t⟩) (n:=(tcg c t).code.length) ha.1 g1 (fun e=>by rw [g2] at e ⊢;exact z40 hck e);generalize doI (z0j (tcg c t).code (K.T t).at_ 37) ⟨(K.T t).at_,(K.T t).rg,K.tm t⟩=r at hok hat;have hx:z8a c t { K.T t with at_:=r.2.at_,rg:=r.2.rg }:=⟨hT.lev,hT.late,hT.job,hok.1.rg,⟨hat.1,by have:=hat.2;have:=hcf.2.2.2.2.2;show r.2.at_≤300;omega⟩,hT.st,fun _=>hat.2,by show 2≤(K.T t).st→_;omega,hT.on4,hT.on5,hT.on6,hT.on⟩;have h2:=z0t i1 ht hx rfl rfl;have h3:Inv c ((K.cost (zT (z0j (tcg c t).code (K.T t).at_ 37))).putCx t r.2):=by
    unfold Kn.putCx;rw [if_pos t64];refine { h2 with tm:=fun u hu=>?_ };show (upd K.tm t r.2.mem u).length=_∧∀ w∈upd K.tm t r.2.mem u,zG w;unfold upd;split
    ·rename_i e;subst e;exact ⟨by rw [hok.2];exact (hI.tm u ht).1,hok.1.mem⟩
    ·exact hI.tm u hu
   have k2:=k1.putCx t r.2
   split
   ·exact ⟨A,k2⟩
   ·have h4:=zl h3 21 t r.1 0;have s4:(((K.cost (zT (z0j (tcg c t).code (K.T t).at_ 37))).putCx t r.2).T t).st=1:=by
     unfold Kn.putCx;rw [if_pos t64];show (upd _ _ _ _:Ts).st=1;rw [zK];exact hs
    have s5:((((K.cost (zT (z0j (tcg c t).code (K.T t).at_ 37))).putCx t r.2).tell c 21 t r.1 0).T t).st=1:=by rw [z01];exact s4
    have hT4:=h4.T t ht;refine k2.gone hf hn ht (zt9 h3 ht (by omega)) ha0 (.inl rfl) r.1 (.inr rfl) (z5n (z2f h4 (z2B h4 ht s5) ?_) t);exact ⟨hT4.lev,hT4.late,hT4.job,hT4.rg,hT4.at_,by show (0:Int)≤8∧(8:Int)≤8;decide,by show (8:Int)=0∨(8:Int)=1→_;omega,by show 2≤(8:Int)→(8:Int)≤6→_;omega,by show (8:Int)=4→_;omega,by show (8:Int)=5→_;omega,by show (8:Int)=6→_;omega,hT4.on⟩
  ·rw [g2] at hop;simp at hop
 ·rename_i hop
  have k2:Kp A0 c ((K.cost (zT (z0j (tcg c t).code (K.T t).at_ 37))).setT t { (K.cost (zT (z0j (tcg c t).code (K.T t).at_ 37))).T t with at_:=((K.cost (zT (z0j (tcg c t).code (K.T t).at_ 37))).T t).at_+1 }) A:=by
   refine k1.sim rfl rfl rfl rfl (fun u=>?_) (fun t l hl=>⟨l,hl⟩) (fun _ _ g=>g) ⟨rfl,rfl⟩;show ztE (K.T u) (upd K.T t { K.T t with at_:=(K.T t).at_+1 } u)
   by_cases e:u=t
   ·subst e;rw [zK];exact ⟨⟨rfl,rfl,rfl⟩,rfl,rfl⟩
   ·rw [zL _ _ e];exact .refl _
  generalize (zT (z0j (tcg c t).code (K.T t).at_ 37))=z at *
  split
  ·-- halt: the task is behind its end
   have r:=z2B i1 ht (show ((K.cost z).T t).st=1 from hs);have hx:z8a c t { (K.cost z).T t with at_:=((K.cost z).T t).at_+1,st:=7 }:=⟨hT.lev,hT.late,hT.job,hT.rg,by show 0≤(K.T t).at_+1∧(K.T t).at_+1≤300;omega,by show (0:Int)≤7∧(7:Int)≤8;decide,by show (7:Int)=0∨(7:Int)=1→_;omega,by show 2≤(7:Int)→(7:Int)≤6→_;omega,by show (7:Int)=4→_;omega,by show (7:Int)=5→_;omega,by show (7:Int)=6→_;omega,hT.on⟩;have iY:=z5n (z2f i1 r hx) t;refine k2.gone hf hn ht (zt9 hI ht (by omega)) ha0 (.inr rfl) 0 (.inl rfl) (z6Z iY ?_ ?_)
   ·constructor<;>simp [Kn.setT]
   ·have hy:=(zl i1 22 t 0 0).cyc;have e:∀ X:Kn,X.cycle=(K.cost z).cycle→(X.tell c 22 t 0 0).cycle=((K.cost z).tell c 22 t 0 0).cycle:=fun X e=>by
     unfold Kn.tell;split
     ·show (X.cycle+_)%_=((K.cost z).cycle+_)%_;rw [e]
     ·exact e
    have e2:=e ((K.cost z).setT t { (K.cost z).T t with at_:=((K.cost z).T t).at_+1 }) rfl;rw [← e2] at hy;exact hy
  ·rename_i hne
   rcases hl with ⟨g1,g2,g3⟩ | ⟨_,g2⟩
   ·have hx:z8a c t { (K.cost z).T t with at_:=((K.cost z).T t).at_+1 }:=⟨hT.lev,hT.late,hT.job,hT.rg,by show 0≤(K.T t).at_+1∧(K.T t).at_+1≤300;omega,hT.st,fun _=>by show (K.T t).at_+1≤_;omega,by show 2≤(K.T t).st→_;omega,hT.on4,hT.on5,hT.on6,hT.on⟩;have i2:=z0t i1 ht hx rfl rfl;refine k2.serveTask hf i2 ht ⟨?_,?_⟩ ha0 hi value
    ·rw [z2U,if_pos rfl];exact hs
    ·rw [z2U,if_pos rfl];show 1≤(K.T t).at_+1∧(K.T t).at_+1≤_;omega
   ·rw [g2] at hne;exact absurd rfl hne
theorem Kp.dispatch (hf:c.filter=4294967295) (h:Kp A0 c K A) (hI:Inv c K) (hac:K.ln.active=255) (value:Int):∃ B,Kp A0 c (K.dispatch c value) B:=by
 have hn:=hI.cf.nt;have hrr:=hI.run;have key:∀ t:Int,(t=255∧z0h K.R=none∨∃ u:Nat,t=u∧z0h K.R=some u)→∃ B,Kp A0 c (if t=K.run then K else { (K.tell c 5 t K.run 0).cost 10 with run:=t }) B∧(if t=K.run then K else { (K.tell c 5 t K.run 0).cost 10 with run:=t }).run=t:=by
  intro t ht
  by_cases e:t=K.run
  ·rw [if_pos e];exact ⟨A,h,e.symm⟩
  ·rw [if_neg e];have hrt:0≤t∧t<256∧(t=255∨t<c.ts.length):=by
    rcases ht with ⟨rfl,_⟩ | ⟨u,rfl,hu⟩
    ·omega
    ·obtain ⟨l,hl⟩:=z0q hu;have:=(hI.rdy l u hl).1;omega
   have hr:zob A 5 t.toNat K.run.toNat ((0:Int)).toNat false=true:=by
    show (decide (A.isr=0) && decide (A.run=if K.run.toNat=255 then 0 else (K.run.toNat:Int)+1) && (if t.toNat=255 then zjn A else decide ((z4y A t.toNat).st=1)))=true;have a1:A.isr=0:=by rw [h.ag.isr,if_pos hac]
    have a2:A.run=if K.run.toNat=255 then 0 else (K.run.toNat:Int)+1:=by
     rw [h.ag.run];clear ht
     by_cases e2:K.run=255
     ·rw [if_pos e2,if_pos (show K.run.toNat=255 by omega)]
     ·have e3:((K.run.toNat:Nat):Int)=K.run:=by omega
      rw [if_neg e2,if_neg (show ¬ K.run.toNat=255 by omega),e3]
    rw [decide_eq_true a1,decide_eq_true a2,Bool.true_and,Bool.true_and]
    rcases ht with ⟨rfl,hu⟩ | ⟨u,rfl,hu⟩
    ·rw [if_pos (show ((255:Int)).toNat=255 from rfl)];unfold zjn;rw [List.all_eq_true];intro x hx;rw [decide_eq_true_eq];obtain ⟨k,hk,rfl⟩:=List.getElem_of_mem hx;have ek:z4y A k=A.ts[k]:=by unfold z4y tkg;simp [List.getD,hk]
     rw [← ek]
     by_cases hkn:k<c.ts.length
     ·rw [(h.ag.ts k hkn).st];intro e3;have h1:(K.T k).st=1:=by
       unfold zv0 at e3
       split at e3
       ·omega
       split at e3
       ·assumption
       split at e3<;>omega
      obtain ⟨l,hl⟩:=h.iv.rall k hkn h1;rw [ztR hI.R hu l] at hl;cases hl
     ·exact h.ag.tz k (by omega)
    ·obtain ⟨l,hl⟩:=z0q hu;have hul:=hI.rdy l u hl;rw [Int.toNat_natCast,if_neg (by omega),decide_eq_true_eq,(h.ag.ts u hul.1).st,hul.2];rfl
   refine ⟨after A K 5 t K.run 0,⟨zt6 hf h.rn h.due (by decide) hr,?_,?_,?_⟩,rfl⟩
   ·rw [zsZ h.due];exact h.due
   ·rw [zsZ h.due];show Ag _ (K.tell c 5 t K.run 0).ln.active (fun j=>(K.tell c 5 t K.run 0).ln.pending.testBit j) t (K.tell c 5 t K.run 0).T (K.tell c 5 t K.run 0).L.ow _;rw [zld,z01,zbe];refine { h.ag with run:=?_ };show (if t.toNat=255 then (0:Int) else (t.toNat:Int)+1)=if t=255 then 0 else t+1;clear ht
    by_cases e2:t=255
    ·rw [if_pos e2,if_pos (show t.toNat=255 by omega)]
    ·have e3:((t.toNat:Nat):Int)=t:=by omega
     rw [if_neg e2,if_neg (show ¬ t.toNat=255 by omega),e3]
   ·exact (h.iv.told 5 t K.run 0).sim (fun _=>.refl _) (fun t l hl=>⟨l,hl⟩) (fun _ _ g=>g) rfl
 unfold Kn.dispatch;dsimp only
 cases hfr:z0h K.R with
 | none =>
  obtain ⟨B,hB,_⟩:=key 255 (.inl ⟨rfl,hfr⟩);exact ⟨B,hB.cost 1⟩
 | some u =>
  obtain ⟨B,hB,hrun⟩:=key u (.inr ⟨u,rfl,hfr⟩);obtain ⟨l,hl⟩:=z0q hfr;have hul:=hI.rdy l u hl;have i2:Inv c (if (u:Int)=K.run then K else { (K.tell c 5 u K.run 0).cost 10 with run:=(u:Int) }):=by
   split
   ·exact hI
   ·exact { zU (zl hI 5 u K.run 0) 10 with run:=.inr ⟨by show (0:Int)≤(u:Int);omega,by show (u:Int)<_;omega⟩ }
  have hT2:(if (u:Int)=K.run then K else { (K.tell c 5 u K.run 0).cost 10 with run:=(u:Int) }).T=K.T:=by
   split
   ·rfl
   ·show (K.tell c 5 u K.run 0).T=_;rw [z01]
  have hln2:(if (u:Int)=K.run then K else { (K.tell c 5 u K.run 0).cost 10 with run:=(u:Int) }).ln=K.ln:=by
   split
   ·rfl
   ·show (K.tell c 5 u K.run 0).ln=_;rw [zld]
  generalize (if (u:Int)=K.run then K else { (K.tell c 5 u K.run 0).cost 10 with run:=(u:Int) })=K2 at *;exact hB.go hf i2 hul.1 (by rw [hT2];exact hul.2) (zum hB.ag (.inl ⟨by omega,hul.1,by rw [hln2];exact hac,hrun,by rw [hT2];exact hul.2⟩)) value
end
section
variable {c:Cf} {K K':Kn} {A0 A B:Au}
theorem ztu (a b:Nat):∀ n,(K.raiseN c a b n).T=K.T∧(K.raiseN c a b n).ln=K.ln∧(K.raiseN c a b n).run=K.run∧(K.raiseN c a b n).L=K.L∧(K.raiseN c a b n).R=K.R∧(K.raiseN c a b n).S=K.S
 | 0=>⟨rfl,rfl,rfl,rfl,rfl,rfl⟩
 | n+1=>by
  obtain ⟨e1,e2,e3,e4,e5,e6⟩:=ztu a b n;unfold Kn.raiseN;dsimp only
  split
  ·rw [z01,zld,ziI,zbe,zgF,z3V];exact ⟨e1,e2,e3,e4,e5,e6⟩
  ·exact ⟨e1,e2,e3,e4,e5,e6⟩
theorem ztI (hf:c.filter=4294967295) (h:Kp A0 c K A) (ln:Ln) (came:Nat):∀ n,n≤16→∃ B,Rn A0 (({ K with ln:=ln }:Kn).raiseN c came (came &&& K.ln.pending) n).told B∧B.due=du0 ∧
  Ag c.ts.length K.ln.active (fun j=>if j<n then (K.ln.pending ||| came).testBit j else K.ln.pending.testBit j) K.run K.T K.L.ow B
 | 0,_=>⟨A,h.rn,h.due,h.ag.congP fun j _=>by simp⟩
 | n+1,hn=>by
  obtain ⟨B,r1,d1,a1⟩:=ztI hf h ln came n (by omega);unfold Kn.raiseN;dsimp only;have hpn:B.pn.getD n false=K.ln.pending.testBit n:=by
   have:=a1.pn n (by omega);rw [this];simp
  split
  ·rename_i hc
   have ha:(came &&& K.ln.pending).testBit n=K.ln.pending.testBit n:=by rw [Nat.testBit_and,hc,Bool.true_and]
   have hr:zob B 1 ((n:Int)).toNat (if (came &&& K.ln.pending).testBit n then (1:Int) else 0).toNat ((0:Int)).toNat false=true:=by
    rw [Int.toNat_natCast,ha];show (B.pn.getD n false==decide ((if K.ln.pending.testBit n then (1:Int) else 0).toNat=1))=true;rw [hpn]
    cases K.ln.pending.testBit n<;>rfl
   refine ⟨_,zt6 hf r1 d1 (by decide) hr,?_,?_⟩
   ·rw [zsZ d1];exact d1
   ·rw [zsZ d1,Int.toNat_natCast];refine ((zun a1 (m:=n) (by omega) true).congP fun j hj=>?_).same rfl rfl rfl rfl rfl
    by_cases e:j=n
    ·subst e;rw [if_pos (by omega),if_pos rfl,Nat.testBit_or,hc,Bool.or_true]
    ·rw [if_neg e]
     by_cases e2:j<n
     ·rw [if_pos (by omega),if_pos e2]
     ·rw [if_neg (by omega),if_neg e2]
  ·rename_i hc
   refine ⟨B,r1,d1,a1.congP fun j hj=>?_⟩
   by_cases e:j=n
   ·subst e;rw [if_pos (by omega),if_neg (by omega),Nat.testBit_or,eq_false_of_ne_true hc,Bool.or_false]
   ·by_cases e2:j<n
    ·rw [if_pos (by omega),if_pos e2]
    ·rw [if_neg (by omega),if_neg e2]
theorem Kp.raise (hf:c.filter=4294967295) (h:Kp A0 c K A) (hI:Inv c K) (bits:Nat):∃ B,Kp A0 c (K.raise c bits) B:=by
 unfold Kn.raise
 split
 ·exact ⟨A,h⟩
 ·have hnl:=hI.cf.nl;obtain ⟨B,r1,d1,a1⟩:=ztI hf h (K.ln.raise bits) (bits &&& K.ln.all) c.ls.length hnl;obtain ⟨e1,e2,e3,e4,e5,e6⟩:=ztu (K:={ K with ln:=K.ln.raise bits }) (c:=c) (bits &&& K.ln.all) (bits &&& K.ln.all &&& K.ln.pending) c.ls.length;refine ⟨B,r1,d1,?_,?_⟩
  ·rw [AgK,e1,e2,e3,e4];refine a1.congP fun j hj=>?_;show (K.ln.pending ||| (bits &&& K.ln.all)).testBit j=_
   by_cases e:j<c.ls.length
   ·rw [if_pos e]
   ·rw [if_neg e,Nat.testBit_or,Nat.testBit_and,hI.all,Nat.testBit_two_pow_sub_one,decide_eq_false e,Bool.and_false,Bool.or_false]
  ·exact h.iv.sim (fun t=>by rw [e1];exact .refl _) (fun t l hl=>⟨l,by rw [e5];exact hl⟩) (fun t _ hs=>by rw [e6] at hs;exact hs) (by rw [e4])
theorem Kp.serve (hf:c.filter=4294967295) (h:Kp A0 c K A) (hI:Inv c K) (hac:K.ln.active≠255) (value:Int):∃ B,Kp A0 c (K.serve c K.ln.active.toNat value) B:=by
 obtain ⟨a1,a2,a3⟩:=hI.act.resolve_left hac;have hnl:=hI.cf.nl;have hn:K.ln.active.toNat<c.ls.length:=by omega
 have hna:((K.ln.active.toNat:Nat):Int)=K.ln.active:=by omega
 have hi:=z1k hI.cf hn hI.iat.1;have hl:=z3H (l:=(lcg c K.ln.active.toNat).code) (a:=K.iat) (last:=38) hI.iat.1;have hcf:=hI.cf.l _ hn;have ha:zcz A (64+K.ln.active.toNat)=true:=zum h.ag (.inr ⟨by omega,by omega,by omega⟩);have hisr:A.isr=K.ln.active+1:=by rw [h.ag.isr,if_neg hac]
 generalize hnn:K.ln.active.toNat=n at *;have exit:∀ {K1:Kn} {A1:Au},Kp A0 c K1 A1→K1.ln.active=K.ln.active→A1.isr=K.ln.active+1→∃ B,Kp A0 c { K1.tell c 4 n 0 0 with ln:=(K1.tell c 4 n 0 0).ln.leave } B:=by
  intro K1 A1 g e1 e2;have hr:zob A1 4 ((n:Int)).toNat ((0:Int)).toNat ((0:Int)).toNat false=true:=by
   rw [Int.toNat_natCast];show decide (A1.isr=(n:Int)+1)=true;rw [e2,hna,decide_eq_true_eq]
  refine ⟨_,zt6 hf g.rn g.due (by decide) hr,?_,?_,?_⟩
  ·rw [zsZ g.due];exact g.due
  ·rw [zsZ g.due];show Ag _ 255 (fun j=>(K1.tell c 4 n 0 0).ln.pending.testBit j) (K1.tell c 4 n 0 0).run (K1.tell c 4 n 0 0).T (K1.tell c 4 n 0 0).L.ow _;rw [zld,ziI,z01,zbe];exact { g.ag with isr:=rfl }
  ·exact (g.iv.told 4 n 0 0).sim (fun _=>.refl _) (fun t l hl=>⟨l,hl⟩) (fun _ _ g=>g) rfl
 unfold Kn.serve;dsimp only;have i1:=zU hI (zT (z0j (lcg c n).code K.iat 38));have k1:=h.cost (zT (z0j (lcg c n).code K.iat 38));have n64:¬ 64+n<64:=by omega
 split
 ·rename_i hop
  have k2:=k1.putCx (64+n) (doI (z0j (lcg c n).code K.iat 38) ((K.cost (zT (z0j (lcg c n).code K.iat 38))).cx (64+n))).2;have e2:((K.cost (zT (z0j (lcg c n).code K.iat 38))).putCx (64+n) (doI (z0j (lcg c n).code K.iat 38) ((K.cost (zT (z0j (lcg c n).code K.iat 38))).cx (64+n))).2).ln=K.ln:=by
   unfold Kn.putCx;rw [if_neg n64];rfl
  generalize (doI (z0j (lcg c n).code K.iat 38) ((K.cost (zT (z0j (lcg c n).code K.iat 38))).cx (64+n)))=r at *;generalize (K.cost (zT (z0j (lcg c n).code K.iat 38))).putCx (64+n) r.2=K2 at *
  split
  ·exact ⟨A,k2⟩
  ·have hr:zob A 21 ((64+(n:Int))).toNat r.1.toNat ((0:Int)).toNat false=true:=by
    rw [show ((64+(n:Int))).toNat=64+n by omega];exact ha
   have r1:=zt6 (K:=K2) (a:=64+(n:Int)) (b:=r.1) (v:=0) hf k2.rn k2.due (by decide) hr;have e21:after A K2 21 (64+(n:Int)) r.1 0={ A with due:=⟨4,n,0⟩,last:=⟨21,K2.cycle,K2.count,64+n,r.1.toNat,0⟩,seen:=A.seen+1 }:=by
    rw [zsZ k2.due,show ((64+(n:Int))).toNat=64+n by omega];show ({ (if 64+n<64 then setT A (64+n) { z4y A (64+n) with st:=3 } else { A with due:=⟨4,64+n-64,0⟩ }:Au) with last:=_,seen:=_ }:Au)=_;rw [if_neg n64,show 64+n-64=n by omega];rfl
   have r2:=zuS (K:={ K2.tell c 21 (64+(n:Int)) r.1 0 with ln:=(K2.tell c 21 (64+(n:Int)) r.1 0).ln.bar n }) (kd:=4) (a:=(n:Int)) (b:=0) (v:=0) hf r1 (by rw [e21,Int.toNat_natCast];rfl) (by decide) (by
    rw [Int.toNat_natCast,e21];show decide (A.isr=(n:Int)+1)=true;rw [hisr,hna,decide_eq_true_eq])
   refine ⟨_,r2,by rw [ztg];rfl,?_,?_⟩
   ·rw [ztg,e21];show Ag _ 255 (fun j=>(Kn.tell { K2.tell c 21 (64+(n:Int)) r.1 0 with ln:=(K2.tell c 21 (64+(n:Int)) r.1 0).ln.bar n } c 4 n 0 0).ln.pending.testBit j) (Kn.tell { K2.tell c 21 (64+(n:Int)) r.1 0 with ln:=(K2.tell c 21 (64+(n:Int)) r.1 0).ln.bar n } c 4 n 0 0).run (Kn.tell { K2.tell c 21 (64+(n:Int)) r.1 0 with ln:=(K2.tell c 21 (64+(n:Int)) r.1 0).ln.bar n } c 4 n 0 0).T (Kn.tell { K2.tell c 21 (64+(n:Int)) r.1 0 with ln:=(K2.tell c 21 (64+(n:Int)) r.1 0).ln.bar n } c 4 n 0 0).L.ow _;rw [zld,ziI,z01,zbe];show Ag _ 255 (fun j=>(K2.tell c 21 (64+(n:Int)) r.1 0).ln.pending.testBit j) (K2.tell c 21 (64+(n:Int)) r.1 0).run (K2.tell c 21 (64+(n:Int)) r.1 0).T (K2.tell c 21 (64+(n:Int)) r.1 0).L.ow _;rw [zld,ziI,z01,zbe];exact { k2.ag with isr:=rfl }
   ·refine Iv2.sim (K:=(K2.tell c 21 (64+(n:Int)) r.1 0)) (k2.iv.told _ _ _ _) (fun u=>?_) (fun t l hl=>⟨l,?_⟩) (fun u _ g=>?_) ?_
    ·show ztD _ ((Kn.tell { K2.tell c 21 (64+(n:Int)) r.1 0 with ln:=(K2.tell c 21 (64+(n:Int)) r.1 0).ln.bar n } c 4 n 0 0).T u);simp only [z01];exact .refl _
    ·show t∈(Kn.tell { K2.tell c 21 (64+(n:Int)) r.1 0 with ln:=(K2.tell c 21 (64+(n:Int)) r.1 0).ln.bar n } c 4 n 0 0).R l;rw [zgF];exact hl
    ·have g:has (Kn.tell { K2.tell c 21 (64+(n:Int)) r.1 0 with ln:=(K2.tell c 21 (64+(n:Int)) r.1 0).ln.bar n } c 4 n 0 0).S u:=g;rw [z3V] at g;exact g
    ·show (Kn.tell { K2.tell c 21 (64+(n:Int)) r.1 0 with ln:=(K2.tell c 21 (64+(n:Int)) r.1 0).ln.bar n } c 4 n 0 0).L.on=_;rw [zbe]
 ·rename_i hop
  split
  ·exact exit k1 rfl hisr
  ·rename_i hne
   rcases hl with ⟨g1,g2,g3⟩ | ⟨_,g2⟩
   ·have hck:=(hI.cf.lc n hn _ g3).1;have i2:Inv c { K.cost (zT (z0j (lcg c n).code K.iat 38)) with iat:=K.iat+1 }:={ i1 with iat:=⟨by have:=hI.iat.1;show 0≤K.iat+1;omega,by show K.iat+1≤300;omega⟩,act:=.inr ⟨a1,a2,by show K.iat+1≤((lcg c K.ln.active.toNat).code.length:Int);rw [hnn];omega⟩ };have k2:Kp A0 c { K.cost (zT (z0j (lcg c n).code K.iat 38)) with iat:=K.iat+1 } A:=k1.sim rfl rfl rfl rfl (fun _=>.refl _) (fun t l hl=>⟨l,hl⟩) (fun _ _ g=>g) ⟨rfl,rfl⟩;refine k2.shared hf i2 (.inr ⟨by omega,by omega⟩) (fun a=>absurd a n64) ha hi (fun _ e=>?_) value;have hm:=z4D hck;rw [← g2] at hm;unfold may at hm;rw [if_neg hne] at hm
    simpa [e] using hm
   ·rw [g2] at hne;exact absurd rfl hne
theorem Kp.act (hf:c.filter=4294967295) (h:Kp A0 c K A) (hI:Inv c K) (value:Int):∃ B,Kp A0 c (K.act c value) B:=by
 unfold Kn.act
 split
 ·exact ⟨A,h⟩
 split
 ·rename_i ha;exact h.serve hf hI ha value
 rename_i hac
 have hac:K.ln.active=255:=Classical.not_not.1 hac
 split
 ·rename_i hr
  have hr':K.ln.active=255∧K.ln.pending &&& K.ln.mask≠0:=by unfold Ln.ready at hr;simpa using hr
  have hnl:=hI.cf.nl;have hsm:K.ln.pending &&& K.ln.mask<2^c.ls.length:=z3w hI.msk;have hlow:low (K.ln.pending &&& K.ln.mask)<c.ls.length:=zfL hr'.2 hsm (by omega);have h32:K.ln.pending &&& K.ln.mask<4294967296:=Nat.lt_of_lt_of_le hsm (Nat.pow_le_pow_right (by decide) (show c.ls.length≤32 by omega));have hb:=(zfK hr'.2 h32).1;rw [Nat.testBit_and,Bool.and_eq_true] at hb;have he:K.ln.enter={ K.ln with active:=low (K.ln.pending &&& K.ln.mask),pending:=K.ln.pending &&& (4294967295-2^low (K.ln.pending &&& K.ln.mask)) }:=by unfold Ln.enter;rw [if_pos hr]
  generalize low (K.ln.pending &&& K.ln.mask)=m at *;have hru:zob A 3 (K.ln.enter.active).toNat ((0:Int)).toNat ((0:Int)).toNat false=true:=by
   rw [he];show (decide (A.isr=0) && A.pn.getD m false)=true;rw [h.ag.isr,if_pos hac,h.ag.pn m (by omega),hb.1];rfl
  refine ⟨after A { K with ln:=K.ln.enter } 3 K.ln.enter.active 0 0,zt6 (K:={ K with ln:=K.ln.enter }) hf h.rn h.due (by decide) hru,?_,?_,?_⟩
  ·rw [zsZ h.due];exact h.due
  ·show Ag _ (Kn.tell { K with ln:=K.ln.enter } c 3 K.ln.enter.active 0 0).ln.active (fun j=>(Kn.tell { K with ln:=K.ln.enter } c 3 K.ln.enter.active 0 0).ln.pending.testBit j) (Kn.tell { K with ln:=K.ln.enter } c 3 K.ln.enter.active 0 0).run (Kn.tell { K with ln:=K.ln.enter } c 3 K.ln.enter.active 0 0).T (Kn.tell { K with ln:=K.ln.enter } c 3 K.ln.enter.active 0 0).L.ow _;rw [zld,ziI,z01,zbe,zsZ h.due];show Ag _ K.ln.enter.active (fun j=>K.ln.enter.pending.testBit j) K.run K.T K.L.ow _;rw [he];have a1:=zun h.ag (m:=m) (by omega) false;refine { a1.congP (q:=fun j=>(K.ln.pending &&& (4294967295-2^m)).testBit j) (fun j hj=>?_) with isr:=?_ }
   ·show (K.ln.pending &&& (4294967295-2^m)).testBit j=if j=m then false else K.ln.pending.testBit j;rw [Nat.testBit_and,show (4294967295-2^m:Nat)=2^32-(2^m+1) by omega,Nat.testBit_two_pow_sub_succ (Nat.pow_lt_pow_right (by decide) (by omega)),Nat.testBit_two_pow]
    by_cases e:j=m
    ·subst e;rw [if_pos rfl];simp
    ·rw [if_neg e,decide_eq_true (show j<32 by omega),decide_eq_false (Ne.symm e)];simp
   ·show ((m:Int)).toNat+(1:Int)=if (m:Int)=255 then 0 else (m:Int)+1;rw [Int.toNat_natCast,if_neg (by omega)]
  ·refine Iv2.sim h.iv (fun u=>?_) (fun t l hl=>⟨l,?_⟩) (fun u _ g=>?_) ?_
   ·show ztD _ ((Kn.tell { K with ln:=K.ln.enter } c 3 K.ln.enter.active 0 0).T u);rw [z01];exact .refl _
   ·show t∈(Kn.tell { K with ln:=K.ln.enter } c 3 K.ln.enter.active 0 0).R l;rw [zgF];exact hl
   ·have g:has (Kn.tell { K with ln:=K.ln.enter } c 3 K.ln.enter.active 0 0).S u:=g;rw [z3V] at g;exact g
   ·show (Kn.tell { K with ln:=K.ln.enter } c 3 K.ln.enter.active 0 0).L.on=_;rw [zbe]
 ·exact h.dispatch hf hI hac value
end
theorem Rn.app:∀ {l m:List Ev} {A B C:Au},Rn A l B→Rn B m C→Rn A (l++m) C
 | [],_,A,B,C,h,h2=>by obtain rfl:B=A:=h;exact h2
 | e::l,m,A,B,C,h,h2=>⟨h.1,Rn.app h.2 h2⟩
structure zuk (c:Cf) (K:Kn) (A:Au):Prop where
 due:A.due=du0
 ag:AgK c K A
 iv:Iv2 c K
 nc:A.last.k≠24
 co:A.last.co≤K.count
 cy:A.last.cy≤K.cycle
section
variable {c:Cf} {K:Kn} {A:Au}
theorem zu3 (h1:A.due=du0) (h2:AgK c K A) (h3:Iv2 c K):Kp A c K.take A:=⟨rfl,h1,h2,h3.sim (fun _=>.refl _) (fun t l hl=>⟨l,hl⟩) (fun _ _ g=>g) rfl⟩
theorem zv1 (hf:c.filter=4294967295) (h:zuk c K A) (hI:Inv c K) (ht:K.told=[]) (bits:Nat) {value:Int} (hv:zG value):∃ B,ztw A (K.evs c bits value)=some B∧zuk c (K.step c bits value) B:=by
 by_cases hs:K.full∨K.stopped=true
 ·rw [zcJ hs ht,z3U hs];exact ⟨A,rfl,h.due,h.ag,h.iv.sim (fun _=>.refl _) (fun t l hl=>⟨l,hl⟩) (fun _ _ g=>g) rfl,h.nc,h.co,h.cy⟩
 ·have hfl:¬ K.full:=fun e=>hs (.inl e);have hz:K.stopped=false:=by simpa using fun e=>hs (.inr e)
  have k0:Kp A c K A:=⟨by rw [ht];rfl,h.due,h.ag,h.iv⟩;obtain ⟨B1,k1⟩:=k0.tick hf hI hfl hz;have i1:=z3b (z8Z hI);obtain ⟨B2,k2⟩:=(zu3 k1.due k1.ag k1.iv).raise hf i1 bits;have i2:=z3b (z71 i1 bits);obtain ⟨B3,k3⟩:=(zu3 k2.due k2.ag k2.iv).act hf i2 value;have r:Rn A (K.evs c bits value) B3:=k1.rn.app (k2.rn.app k3.rn);obtain ⟨e1,e2,_,_,e5,e6⟩:=zbc hI hfl hz ht bits hv;obtain ⟨a1,a2,a3,a4⟩:=zuM (co:=K.count+1) r h.nc (by have:=h.co;omega) h.cy (fun e he=>⟨(e5 e he).1,(e5 e he).2.2⟩) e6;refine ⟨B3,a1,k3.due,k3.ag,k3.iv.sim (fun _=>.refl _) (fun t l hl=>⟨l,hl⟩) (fun _ _ g=>g) rfl,a2,by rw [e1];exact a3,a4⟩
theorem zul (ok:z7T c):zuk c (z34 c) au0:=by
 have tk:∀ t,z4y au0 t=tk0:=fun t=>by
  show (List.replicate 64 tk0).getD t tk0=tk0;simp only [List.getD,List.getElem?_replicate]
  split<;>rfl
 refine ⟨rfl,⟨rfl,rfl,rfl,rfl,rfl,fun t ht=>?_,fun t ht=>?_,fun m hm=>?_,fun j hj=>?_⟩,⟨fun t ht h1=>?_,fun t ht h1=>?_,fun t ht h1=>?_,fun t ht h1=>?_,fun t ht h1=>?_⟩,?_,?_,?_⟩
 ·rw [tk];exact ⟨rfl,rfl,fun g=>absurd (show (2:Int)≤0 from g) (by decide),rfl,.inl rfl⟩
 ·rw [tk];decide
 ·have e:Go.Au.z3O au0 m=0:=by
   show (List.replicate 32 (0:Int)).getD m 0=0;simp only [List.getD,List.getElem?_replicate]
   split<;>rfl
  rw [e];show 0=zuj (List.replicate c.mutexes.toNat 255) m;unfold zuj;rw [List.length_replicate]
  by_cases h:m<c.mutexes.toNat
  ·have:lg (List.replicate c.mutexes.toNat 255) m=255:=by unfold lg;simp [List.getD,List.getElem?_replicate,h]
   rw [if_pos h,if_pos this]
  ·rw [if_neg h]
 ·show (List.replicate 16 false).getD j false=Nat.testBit 0 j;simp only [List.getD,List.getElem?_replicate,Nat.zero_testBit]
  split<;>rfl
 ·exact absurd (show (0:Int)=1 from h1) (by decide)
 ·rfl
 ·show (0:Int)<7;decide
 ·have e:z0N (z34 c).L t=-1:=by
   show lg (List.replicate (zgU c).length (-1)) t=-1;have hl:(zgU c).length=c.ts.length:=by unfold zgU;simp
   unfold lg;simp [List.getD,List.getElem?_replicate,hl,ht]
  rw [e] at h1;exact absurd h1 (by decide)
 ·exact absurd (show (0:Int)=2 from h1) (by decide)
 ·show (0:Int)≠24;decide
 ·exact ok.cnt.1
 ·exact ok.cyc.1
theorem ztO (hf:c.filter=4294967295):∀ (n:Nat) {w:Wd} {A:Au},zr8 c w→zuk c w.K A→∃ B,ztw A (Wd.evs c n w)=some B∧zuk c (Wd.run c n w).K B
 | 0,w,A,_,h=>⟨A,rfl,h⟩
 | n+1,w,A,hw,h=>by
  rw [zq9,zqa]
  split
  ·rename_i hd
   obtain ⟨B,b1,b2⟩:=zv1 hf h hw.inv hw.told w.bits (zqV hw);obtain ⟨C,c1,c2⟩:=ztO hf n (zqu hw hd) b2;exact ⟨C,zu0 b1 c1,c2⟩
  ·exact ⟨A,rfl,h⟩
theorem zvz (hf:c.filter=4294967295) (ok:z7T c) {s:Sc} (hs:scE s=0) (ht:∀ v∈s.tape,zG v) (n:Nat) :
  chk au0 (Wd.evs c n (zQc c s))=none∧chk au0 (Wd.evs c n (zQc c s)++[⟨24,(Wd.run c n (zQc c s)).K.cycle,(Wd.run c n (zQc c s)).K.count,0,0,0⟩])=none:=by
 obtain ⟨B,b1,b2⟩:=ztO hf n (zrI ok hs ht) (zul ok);refine ⟨ztf _ b1,ztf _ (zu0 b1 (zvl ?_))⟩;unfold zm5 zlU;simp only [Bool.and_eq_true,decide_eq_true_eq];refine ⟨⟨⟨⟨⟨rfl,b2.nc⟩,b2.co⟩,b2.cy⟩,?_⟩,rfl⟩;rw [b2.due];rfl
end
end Go.Proofs.YtgiiidminlhbpaaGreatDoor
namespace Go.Au
def VOk (k v:Nat):Prop:=k=6∨k=7∨k=8→v<4294967296
instance (k v:Nat):Decidable (VOk k v):=by unfold VOk;infer_instance
end Go.Au
