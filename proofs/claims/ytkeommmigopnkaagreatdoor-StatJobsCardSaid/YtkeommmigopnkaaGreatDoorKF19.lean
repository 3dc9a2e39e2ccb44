/-
  Parts of the proof: StRa StRb StRc StRd StRe.
-/
import Derived.Test.YtkeommmigopnkaaGreatDoorKF18
set_option linter.unusedVariables false
set_option linter.unusedSimpArgs false
set_option maxHeartbeats 32000000
set_option maxRecDepth 100000
namespace Go.St
open Go.Au Go.Hi Go.Sx
structure Sec where
 task:Int
 n:Int
 op:Bool
def sec0:Sec:=⟨0,0,false⟩
def scg (l:List Sec) (k:Nat):Sec:=l.getD k sec0
def ig (l:List Int) (k:Nat):Int:=l.getD k 0
structure Rb where
 jb:List Jb
 ran:List Int
 tak:List Int
 sc:List Sec
def fstI (p:Nat→Bool) (n:Nat):Option Nat:=(List.range n).find? p
def fidx:Option Nat→Int
 | none=>-1
 | some i=>i
def opnS (sc:List Sec) (t:Nat) (i:Nat):Bool:=(scg sc i).op && decide ((scg sc i).task=t)
def opI (sc:List Sec) (t:Nat):Option Nat:=fstI (opnS sc t) sc.length
def opnJ (J:List Jb) (t:Nat) (i:Nat):Bool:=!(jg J i).ended && decide ((jg J i).task=t)
def jbI (J:List Jb) (t:Nat):Option Nat:=fstI (opnJ J t) J.length
def unJ (J:List Jb):List Jb:=J.map fun j=>if j.ended=true then j else { j with tidy:=false }
def lowJ (lv:Nat→Int) (r:Nat) (J:List Jb):List Jb:=J.map fun j=>if j.ended=false∧lv j.task.toNat<lv r then { j with lower:=w64 (j.lower+1) } else j
def looT (t:Tk):Bool:=decide (t.st=0) || decide (t.st=2) && !mtx t.on
def looM (A:Au) (m:Nat):Bool:=decide (0<owg A.ow m) && looT (tkAt A (owg A.ow m-1).toNat)
def looA (A:Au):Bool:=(List.range 32).any (looM A)
def Rb.tk (R:Rb) (A:Au) (e:Ev):Rb:=if e.k=5∧e.b≠255∧(tkAt A e.b).st=1 then { R with tak:=R.tak.set e.b (ig R.tak e.b+1) } else R
def Rb.kind (R:Rb) (A:Au) (e:Ev):Rb :=
 if e.k=6 then { R with jb:=R.jb++[⟨e.a,e.v,e.co,0,false,false,0,0,true⟩] }
 else if e.k=8 then (match jbI R.jb e.a with | some i=>{ R with jb:=R.jb.set i { jg R.jb i with fin:=e.co,ended:=true } } | none=>R)
 else if e.k=9 then (match jbI R.jb e.a with | some i=>(if mtx e.b=true then R else { R with jb:=R.jb.set i { jg R.jb i with tidy:=false } }) | none=>R)
 else if e.k=12 then (if cntO A e.a=1 then { R with sc:=R.sc++[⟨e.a,0,true⟩] } else R)
 else if e.k=13 then (match opI R.sc e.a with | some i=>(if cntO A e.a=0 then { R with sc:=R.sc.set i { scg R.sc i with op:=false } } else R) | none=>R)
 else R
def Rb.lo (R:Rb) (A:Au):Rb:=if looA A=true then { R with jb:=unJ R.jb } else R
def Rb.ev (R:Rb) (A:Au) (e:Ev):Rb:=((R.tk A e).kind (stepA A e) e).lo (stepA A e)
def Rb.evs (R:Rb) (A:Au):List Ev→Rb
 | []=>R
 | e::l=>Rb.evs (R.ev A e) (stepA A e) l
def auS (A:Au) (l:List Ev):Au:=l.foldl stepA A
def Rb.ranS (R:Rb) (lv:Nat→Int) (r:Nat) (ah:Option Nat):Rb :=
 { jb:=lowJ lv r R.jb,ran:=R.ran.set r (w64 (ig R.ran r+1)),tak:=R.tak,sc:=match ah with | some i=>R.sc.set i { scg R.sc i with n:=w64 ((scg R.sc i).n+1) } | none=>R.sc }
def Rb.stp (R:Rb) (lv:Nat→Int) (A:Au) (l:List Ev):Rb :=
 if (decide (A.isr≠0) || hasEnter l)=true∨(auS A l).run=0 then R.evs A l else (R.evs A l).ranS lv ((auS A l).run-1).toNat (opI R.sc ((auS A l).run-1).toNat)
theorem fst_some {p:Nat→Bool} {n i:Nat} (h1:i<n) (h2:p i=true) (h3:∀ j,j<i→p j=false):fstI p n=some i:=by
 unfold fstI;rw [List.find?_range_eq_some];exact ⟨h2,List.mem_range.2 h1,fun j hj=>by simp [h3 j hj]⟩
theorem fst_of {p:Nat→Bool} {n i:Nat} (h:fstI p n=some i):i<n∧p i=true:=by
 unfold fstI at h;rw [List.find?_range_eq_some] at h;exact ⟨List.mem_range.1 h.2.1,h.1⟩
theorem fst_lt {p:Nat→Bool} {n i:Nat} (h:fstI p n=some i) {j:Nat} (hj:j<i):p j=false:=by
 unfold fstI at h;rw [List.find?_range_eq_some] at h;have:=h.2.2 j hj
 simpa using this
theorem fst_none {p:Nat→Bool} {n:Nat}:fstI p n=none↔∀ j,j<n→p j=false:=by
 unfold fstI;rw [List.find?_eq_none];simp
theorem fst_congr {p q:Nat→Bool} {n:Nat} (h:∀ j,j<n→p j=q j):fstI p n=fstI q n:=by
 cases e:fstI q n with
 | none=>rw [fst_none] at e ⊢;exact fun j hj=>(h j hj).trans (e j hj)
 | some i =>
  unfold fstI at e ⊢;rw [List.find?_range_eq_some] at e ⊢;have hi:=List.mem_range.1 e.2.1;exact ⟨by rw [h i hi];exact e.1,e.2.1,fun j hj=>by rw [h j (by omega)];exact e.2.2 j hj⟩
theorem scg_set {l:List Sec} {i k:Nat} (hi:i<l.length) (x:Sec):scg (l.set i x) k=if k=i then x else scg l k:=by
 unfold scg
 by_cases h:k=i
 ·subst h;rw [if_pos rfl];simp [List.getD,hi]
 ·rw [if_neg h];simp [List.getD,List.getElem?_set_ne (Ne.symm h)]
theorem scg_app {l:List Sec} {k:Nat} (hk:k<l.length) (s:Sec):scg (l++[s]) k=scg l k:=by
 unfold scg;rw [List.getD_eq_getElem?_getD,List.getD_eq_getElem?_getD,List.getElem?_append_left hk]
theorem scg_last (l:List Sec) (s:Sec):scg (l++[s]) l.length=s:=by
 unfold scg;rw [List.getD_eq_getElem?_getD,List.getElem?_append_right (Nat.le_refl _),Nat.sub_self];rfl
theorem jb_ext {J K:List Jb} (hl:J.length=K.length) (h:∀ x,x<J.length→jg J x=jg K x):J=K :=
 List.ext_getElem hl fun i h1 h2=>by
  have:=h i h1;unfold jg at this
  rwa [List.getD_eq_getElem?_getD,List.getD_eq_getElem?_getD,List.getElem?_eq_getElem h1,List.getElem?_eq_getElem h2] at this
def mostA (t:Nat) (m:Int) (sc:List Sec):Int:=sc.foldl (fun (m:Int) (s:Sec)=>if s.task=(t:Int) then max m s.n else m) m
theorem mostA_max (t:Nat) (y:Int):∀ (sc:List Sec) (m:Int),mostA t (max m y) sc=max (mostA t m sc) y
 | [],m=>rfl
 | s::l,m=>by
  show mostA t (if s.task=t then max (max m y) s.n else max m y) l=max (mostA t (if s.task=t then max m s.n else m) l) y
  split
  ·rw [show max (max m y) s.n=max (max m s.n) y by omega];exact mostA_max t y l _
  ·exact mostA_max t y l _
theorem mostA_set (t:Nat) {x:Int}:∀ (sc:List Sec) (m:Int) (i:Nat),i<sc.length→(scg sc i).n≤x→mostA t m (sc.set i { scg sc i with n:=x })=if (scg sc i).task=t then max (mostA t m sc) x else mostA t m sc
 | [],_,i,hi,_=>absurd hi (Nat.not_lt_zero i)
 | s::l,m,0,_,hx=>by
  have e0:scg (s::l) 0=s:=rfl;rw [e0] at hx ⊢;show mostA t (if s.task=t then max m x else m) l=if s.task=t then max (mostA t (if s.task=t then max m s.n else m) l) x else mostA t (if s.task=t then max m s.n else m) l
  split
  ·rw [mostA_max,mostA_max];omega
  ·rfl
 | s::l,m,i+1,hi,hx=>by
  have e0:scg (s::l) (i+1)=scg l i:=rfl;rw [e0] at hx ⊢;exact mostA_set t l _ i (Nat.lt_of_succ_lt_succ hi) hx
theorem mostA_op (t:Nat) (b:Bool):∀ (sc:List Sec) (m:Int) (i:Nat),i<sc.length→mostA t m (sc.set i { scg sc i with op:=b })=mostA t m sc
 | [],_,i,hi=>absurd hi (Nat.not_lt_zero i)
 | s::l,m,0,_=>rfl
 | s::l,m,i+1,hi=>mostA_op t b l _ i (Nat.lt_of_succ_lt_succ hi)
theorem mostA_app (t:Nat) (m:Int) (sc:List Sec) (s:Sec):mostA t m (sc++[s])=if s.task=t then max (mostA t m sc) s.n else mostA t m sc:=by
 unfold mostA;rw [List.foldl_append];rfl
theorem opnS_n {sc:List Sec} {i:Nat} (hi:i<sc.length) (x:Int) (t k:Nat):opnS (sc.set i { scg sc i with n:=x }) t k=opnS sc t k:=by
 unfold opnS;rw [scg_set hi]
 by_cases h:k=i
 ·subst h;rw [if_pos rfl]
 ·rw [if_neg h]
theorem opI_n {sc:List Sec} {i:Nat} (hi:i<sc.length) (x:Int) (t:Nat):opI (sc.set i { scg sc i with n:=x }) t=opI sc t:=by
 unfold opI;rw [List.length_set];exact fst_congr fun j _=>opnS_n hi x t j
end Go.St
namespace Go.Proofs.YtkeommmigopnkaaGreatDoor
open Go.RowKit Go.Sx Go.Dl Go.Lk Go.Rq Go.Au Go.Hi Go.St
def OpU (ts:List Sk) (J:List Jb):Prop:=∀ x,x<J.length→(jg J x).ended=false→∃ t:Nat,t<ts.length∧(jg J x).task=t∧(sg ts t).opn=x+1
theorem untF_at {ts:List Sk} {who:Int} {J:List Jb} (hop:OpJ ts J) (hu:OpU ts J):∀ k,k≤ts.length →
  (untF ts who k J).length=J.length∧∀ x,x<J.length→jg (untF ts who k J) x=if (jg J x).ended=false∧(jg J x).task<k∧(who=255∨who=(jg J x).task) then { jg J x with tidy:=false } else jg J x
 | 0,_=>⟨rfl,fun x hx=>by
  by_cases hc:(jg J x).ended=false∧(jg J x).task<(0:Nat)∧(who=255∨who=(jg J x).task)
  ·obtain ⟨t,_,h2,_⟩:=hu x hx hc.1;omega
  ·rw [if_neg hc];rfl⟩
 | k+1,hk=>by
  obtain ⟨h1,h2⟩:=untF_at (who:=who) hop hu k (by omega);rw [untF_snoc];unfold unt1
  by_cases hc:0<(sg ts k).opn∧(who=255∨who=k)
  ·rw [if_pos hc];obtain ⟨o1,o2,o3⟩:=hop k (by omega) hc.1;have hi:(sg ts k).opn-1<J.length:=by omega
   have ho:=hc.1;refine ⟨by rw [List.length_set];exact h1,fun x hx=>?_⟩;rw [jg_set' (by rw [h1];exact hi)]
   by_cases hx1:x=(sg ts k).opn-1
   ·subst hx1;rw [if_pos rfl,h2 _ hi,if_neg (by rw [o3];omega),if_pos ⟨o2,by rw [o3];omega,by rw [o3];exact hc.2⟩]
   ·rw [if_neg hx1,h2 x hx]
    by_cases he:(jg J x).ended=false
    ·obtain ⟨t,t1,t2,t3⟩:=hu x hx he;have:t≠k:=fun q=>by subst q;omega
     rw [t2]
     by_cases hw:(t:Int)<k∧(who=255∨who=t)
     ·rw [if_pos ⟨he,hw⟩,if_pos ⟨he,by omega,hw.2⟩]
     ·rw [if_neg (fun q=>hw q.2),if_neg (fun q=>hw ⟨by have:=q.2.1;omega,q.2.2⟩)]
    ·rw [if_neg (fun q=>he q.1),if_neg (fun q=>he q.1)]
  ·rw [if_neg hc];refine ⟨h1,fun x hx=>?_⟩;rw [h2 x hx]
   by_cases he:(jg J x).ended=false
   ·obtain ⟨t,t1,t2,t3⟩:=hu x hx he;rw [t2]
    by_cases hw:(t:Int)<k∧(who=255∨who=t)
    ·rw [if_pos ⟨he,hw⟩,if_pos ⟨he,by omega,hw.2⟩]
    ·rw [if_neg (fun q=>hw q.2),if_neg (fun q=>?_)]
     by_cases e:t=k
     ·subst e;exact hc ⟨by omega,q.2.2⟩
     ·exact hw ⟨by have:=q.2.1;omega,q.2.2⟩
   ·rw [if_neg (fun q=>he q.1),if_neg (fun q=>he q.1)]
theorem lowF_at {ts:List Sk} {lv n:Int} {J:List Jb} (hop:OpJ ts J) (hu:OpU ts J):∀ k,k≤ts.length →
  (lowF ts lv n k J).length=J.length∧∀ x,x<J.length→jg (lowF ts lv n k J) x=if (jg J x).ended=false∧(jg J x).task<k∧(sg ts (jg J x).task.toNat).lev<lv then { jg J x with lower:=w64 ((jg J x).lower+n) } else jg J x
 | 0,_=>⟨rfl,fun x hx=>by
  by_cases hc:(jg J x).ended=false∧(jg J x).task<(0:Nat)∧(sg ts (jg J x).task.toNat).lev<lv
  ·obtain ⟨t,_,h2,_⟩:=hu x hx hc.1;omega
  ·rw [if_neg hc];rfl⟩
 | k+1,hk=>by
  obtain ⟨h1,h2⟩:=lowF_at (lv:=lv) (n:=n) hop hu k (by omega);rw [lowF_snoc];unfold low1
  by_cases hc:0<(sg ts k).opn∧(sg ts k).lev<lv
  ·rw [if_pos hc];obtain ⟨o1,o2,o3⟩:=hop k (by omega) hc.1;have hi:(sg ts k).opn-1<J.length:=by omega
   have ho:=hc.1;refine ⟨by rw [List.length_set];exact h1,fun x hx=>?_⟩;rw [jg_set' (by rw [h1];exact hi)]
   by_cases hx1:x=(sg ts k).opn-1
   ·subst hx1;rw [if_pos rfl,h2 _ hi,if_neg (by rw [o3];omega),if_pos ⟨o2,by rw [o3];omega,by rw [o3,Int.toNat_natCast];exact hc.2⟩]
   ·rw [if_neg hx1,h2 x hx]
    by_cases he:(jg J x).ended=false
    ·obtain ⟨t,t1,t2,t3⟩:=hu x hx he;have:t≠k:=fun q=>by subst q;omega
     rw [t2]
     by_cases hw:(t:Int)<k∧(sg ts (t:Int).toNat).lev<lv
     ·rw [if_pos ⟨he,hw⟩,if_pos ⟨he,by omega,hw.2⟩]
     ·rw [if_neg (fun q=>hw q.2),if_neg (fun q=>hw ⟨by have:=q.2.1;omega,q.2.2⟩)]
    ·rw [if_neg (fun q=>he q.1),if_neg (fun q=>he q.1)]
  ·rw [if_neg hc];refine ⟨h1,fun x hx=>?_⟩;rw [h2 x hx]
   by_cases he:(jg J x).ended=false
   ·obtain ⟨t,t1,t2,t3⟩:=hu x hx he;rw [t2]
    by_cases hw:(t:Int)<k∧(sg ts (t:Int).toNat).lev<lv
    ·rw [if_pos ⟨he,hw⟩,if_pos ⟨he,by omega,hw.2⟩]
    ·rw [if_neg (fun q=>hw q.2),if_neg (fun q=>?_)]
     by_cases e:t=k
     ·subst e;exact hc ⟨by omega,by have:=q.2.2;rwa [Int.toNat_natCast] at this⟩
     ·exact hw ⟨by have:=q.2.1;omega,q.2.2⟩
   ·rw [if_neg (fun q=>he q.1),if_neg (fun q=>he q.1)]
end Go.Proofs.YtkeommmigopnkaaGreatDoor
namespace Go.Proofs.YtkeommmigopnkaaGreatDoor
open Go.RowKit Go.Sx Go.Dl Go.Lk Go.Rq Go.Au Go.Hi Go.St
def q9 (s:Sk):Int×Int×Int×Int×Int×Nat×Int×Int×Int:=(s.owns,s.len,s.lng,s.ran,s.tak,s.opn,s.lev,s.dl,s.secs)
theorem sg_map {α:Type} (f:Sk→α) {l l':List Sk} (h:l'.map f=l.map f) (t:Nat):f (sg l' t)=f (sg l t):=by
 have e:∀ l:List Sk,f (sg l t)=(l.map f).getD t (f sk0):=fun l=>by
  unfold sg;rw [List.getD_eq_getElem?_getD,List.getD_eq_getElem?_getD,List.getElem?_map];cases l[t]?<;>rfl
 rw [e,e,h]
structure SecOk (sc:List Sec) (t:Nat) (s:Sk):Prop where
 has:0<s.owns→∃ i,opI sc t=some i∧(scg sc i).n=s.len
 non:s.owns≤0→opI sc t=none
 uniq:∀ i j,i<sc.length→j<sc.length→opnS sc t i=true→opnS sc t j=true→i=j
 most:mostA t 0 sc=s.lng
theorem SecOk.congr {sc:List Sec} {t:Nat} {s s':Sk} (h:SecOk sc t s) (e1:s'.owns=s.owns) (e2:s'.len=s.len) (e3:s'.lng=s.lng):SecOk sc t s' :=
 ⟨fun hp=>by rw [e2];exact h.has (e1 ▸ hp),fun hp=>h.non (e1 ▸ hp),h.uniq,by rw [e3];exact h.most⟩
def noM (j:Jb):Jb:={ j with missed:=false }
structure Rl (lv dl:Nat→Int) (n:Nat) (B:Bk) (R:Rb):Prop where
 jb:R.jb=B.jb.map noM
 ran : R.ran = B.ts.map (·.ran)
 tak : R.tak = B.ts.map (·.tak)
 sec:∀ t,t<n→SecOk R.sc t (B.t t)
 opu:OpU B.ts B.jb
 par:∀ t,t<n→(B.t t).lev=lv t∧(B.t t).dl=dl t
 mis:∀ x,x<B.jb.length→(jg B.jb x).ended=true→(jg B.jb x).missed=(decide (0<dl (jg B.jb x).task.toNat) && decide (dl (jg B.jb x).task.toNat<w64 ((jg B.jb x).fin-(jg B.jb x).rel)))
def Sp (n:Nat) (S0:List Sk) (sc0:List Sec) (B:Bk) (R:Rb):Prop:=∀ t,t<n→0<(sg S0 t).owns→∃ i,opI sc0 t=some i∧i<R.sc.length∧(scg R.sc i).task=t∧(scg R.sc i).n=(sg S0 t).len∧(sg S0 t).secs≤(B.t t).secs ∧
 ((B.t t).secs=(sg S0 t).secs→(B.t t).len=(sg S0 t).len∧(0<(B.t t).owns→opI R.sc t=some i))∧((sg S0 t).secs<(B.t t).secs→opnS R.sc t i=false)
section
variable {lv dl:Nat→Int} {n:Nat} {A:Au} {B:Bk} {R:Rb} {S0:List Sk} {sc0:List Sec}
theorem both (h:Rl lv dl n B R) (p:Sp n S0 sc0 B R) {C:Bk} (h1:C.ts.map q9=B.ts.map q9) (h2:C.jb=B.jb):Rl lv dl n C R∧Sp n S0 sc0 C R:=by
 have hl:C.ts.length=B.ts.length:=by have:=congrArg List.length h1;simpa using this
 have q:∀ t,q9 (C.t t)=q9 (B.t t):=fun t=>sg_map q9 h1 t;have q1:∀ t,(C.t t).owns=(B.t t).owns:=fun t=>congrArg (fun x=>x.1) (q t);have q2:∀ t,(C.t t).len=(B.t t).len:=fun t=>congrArg (fun x=>x.2.1) (q t);have q3:∀ t,(C.t t).lng=(B.t t).lng:=fun t=>congrArg (fun x=>x.2.2.1) (q t);have q6:∀ t,(C.t t).opn=(B.t t).opn:=fun t=>congrArg (fun x=>x.2.2.2.2.2.1) (q t);have q7:∀ t,(C.t t).lev=(B.t t).lev:=fun t=>congrArg (fun x=>x.2.2.2.2.2.2.1) (q t);have q8:∀ t,(C.t t).dl=(B.t t).dl:=fun t=>congrArg (fun x=>x.2.2.2.2.2.2.2.1) (q t);have qs:∀ t,(C.t t).secs=(B.t t).secs:=fun t=>congrArg (fun x=>x.2.2.2.2.2.2.2.2) (q t);refine ⟨⟨by rw [h2];exact h.jb,?_,?_,fun t ht=>(h.sec t ht).congr (q1 t) (q2 t) (q3 t),?_,fun t ht=>by rw [q7,q8];exact h.par t ht,by rw [h2];exact h.mis⟩,?_⟩
 ·have:=congrArg (List.map (fun x=>x.2.2.2.1)) h1;rw [List.map_map,List.map_map] at this;exact h.ran.trans this.symm
 ·have:=congrArg (List.map (fun x=>x.2.2.2.2.1)) h1;rw [List.map_map,List.map_map] at this;exact h.tak.trans this.symm
 ·rw [h2];intro x hx he;obtain ⟨t,t1,t2,t3⟩:=h.opu x hx he;exact ⟨t,by rw [hl];exact t1,t2,(q6 t).trans t3⟩
 ·intro t ht ho;rw [qs,q2,q1];exact p t ht ho
theorem kind_other (R:Rb) (A:Au) {e:Ev} (h:e.k≠6∧e.k≠8∧e.k≠9∧e.k≠12∧e.k≠13):R.kind A e=R:=by
 unfold Rb.kind;rw [if_neg (by omega),if_neg (by omega),if_neg (by omega),if_neg (by omega),if_neg (by omega)]
theorem tk_other (R:Rb) (A:Au) {e:Ev} (h:e.k≠5):R.tk A e=R:=by
 unfold Rb.tk;rw [if_neg (fun q=>h q.1)]
theorem OpJ.congr {ts us:List Sk} {J:List Jb} (h:OpJ ts J) (hl:us.length=ts.length) (hq:∀ t,(sg us t).opn=(sg ts t).opn):OpJ us J:=fun t ht hp=>by
 rw [hq] at hp ⊢;exact h t (by omega) hp
theorem Rl.wJ (h:Rl lv dl n B R) {J K:List Jb} (hl:J.length=B.jb.length) (hj:∀ x,x<B.jb.length→(jg J x).ended=(jg B.jb x).ended∧(jg J x).task=(jg B.jb x).task∧((jg B.jb x).ended=true→jg J x=jg B.jb x)) (hK:K=J.map noM):Rl lv dl n (B.wJ J) { R with jb:=K }:=by
 refine ⟨hK,h.ran,h.tak,h.sec,fun x hx he=>?_,h.par,fun x hx he=>?_⟩
 ·have hx:x<J.length:=hx;have q:=hj x (by omega);have he:(jg J x).ended=false:=he;obtain ⟨t,t1,t2,t3⟩:=h.opu x (by omega) (by rw [← q.1];exact he);exact ⟨t,t1,q.2.1.trans t2,t3⟩
 ·have hx:x<J.length:=hx;have q:=hj x (by omega);have he:(jg J x).ended=true:=he;have e:=q.2.2 (by rw [← q.1];exact he);show (jg J x).missed=_;rw [show jg (B.wJ J).jb x=jg J x from rfl,e];exact h.mis x (by omega) (by rw [← q.1];exact he)
theorem Rl.unt (h:Rl lv dl n B R) (op:OpJ B.ts B.jb):Rl lv dl n (B.untidy 255) { R with jb:=unJ R.jb }:=by
 obtain ⟨k1,k2⟩:=untF_at (who:=255) op h.opu B.ts.length (Nat.le_refl _);refine h.wJ k1 (fun x hx=>?_) ?_
 ·rw [k2 x hx]
  split
  ·rename_i c
   exact ⟨rfl,rfl,fun he=>by rw [c.1] at he;cases he⟩
  ·exact ⟨rfl,rfl,fun _=>rfl⟩
 ·rw [h.jb];refine jb_ext (by unfold unJ;simp [k1]) fun x hx=>?_;have hx:x<B.jb.length:=by unfold unJ at hx;simpa using hx
  unfold unJ;rw [jg_map _ (by simpa using hx),jg_map _ hx,jg_map _ (by rw [k1];exact hx),k2 x hx]
  cases he:(jg B.jb x).ended with
  | true =>
   rw [if_pos (show (noM (jg B.jb x)).ended=true from he),if_neg (fun q=>by cases q.1)]
  | false =>
   obtain ⟨t,t1,t2,_⟩:=h.opu x hx he;rw [if_neg (show ¬ (noM (jg B.jb x)).ended=true from fun q=>by rw [show (noM (jg B.jb x)).ended=(jg B.jb x).ended from rfl,he] at q;cases q),if_pos ⟨rfl,by rw [t2];omega,.inl rfl⟩]
   rfl
theorem jbI_of (h:Rl lv dl n B R) (op:OpJ B.ts B.jb) (hb:B.ts.length=n) {a:Nat} (ha:a<n) (ho:0<(B.t a).opn):jbI R.jb a=some ((B.t a).opn-1)∧(B.t a).opn-1<B.jb.length∧(jg B.jb ((B.t a).opn-1)).ended=false∧(jg B.jb ((B.t a).opn-1)).task=a:=by
 obtain ⟨o1,o2,o3⟩:=op a (by omega) ho;have o1:(B.t a).opn≤B.jb.length:=o1;have hRl:R.jb.length=B.jb.length:=by rw [h.jb,List.length_map]
 refine ⟨fst_some (by omega) ?_ (fun j hj=>?_),by omega,o2,o3⟩
 ·unfold opnJ;rw [h.jb,jg_map noM (by omega)];show (!(jg B.jb ((B.t a).opn-1)).ended && decide ((jg B.jb ((B.t a).opn-1)).task=a))=true;rw [show (jg B.jb ((B.t a).opn-1)).ended=false from o2,show (jg B.jb ((B.t a).opn-1)).task=a from o3];simp
 ·unfold opnJ;rw [h.jb,jg_map noM (by omega)];show (!(jg B.jb j).ended && decide ((jg B.jb j).task=a))=false
  cases he:(jg B.jb j).ended with
  | true=>rfl
  | false =>
   obtain ⟨t,t1,t2,t3⟩:=h.opu j (by omega) he;rw [t2];have:(t:Int)≠a:=fun q=>by
    have q:t=a:=by omega
    subst q;have t3:(B.t t).opn=j+1:=t3;omega
   simp [this]
theorem Rl.k6 (h:Rl lv dl n B R) (hb:B.ts.length=n) {e:Ev} (h6:e.k=6) (ha:e.a<n) (ho:(B.t e.a).opn=0):Rl lv dl n (B.job e) { R with jb:=R.jb++[⟨e.a,e.v,e.co,0,false,false,0,0,true⟩] }:=by
 have hi:e.a<B.ts.length:=by omega
 unfold Bk.job;rw [if_neg (by omega)];refine ⟨?_,(show R.ran = (B.ts.set e.a _).map (·.ran) from h.ran.trans (map_set_same (d:=sk0) (·.ran) (by rfl)).symm),(show R.tak = (B.ts.set e.a _).map (·.tak) from h.tak.trans (map_set_same (d:=sk0) (·.tak) (by rfl)).symm),fun t ht=>?_,fun x hx he=>?_,fun t ht=>?_,fun x hx he=>?_⟩
 ·show R.jb++[_]=(B.jb++[_]).map noM;rw [List.map_append,h.jb];rfl
 ·show SecOk R.sc t (sg (B.ts.set e.a _) t);rw [sg_set' hi]
  by_cases q:t=e.a
  ·subst q;rw [if_pos rfl];exact (h.sec _ ht).congr rfl rfl rfl
  ·rw [if_neg q];exact h.sec t ht
 ·have hx:x<(B.jb++[_]).length:=hx;rw [List.length_append,List.length_singleton] at hx;show ∃ t:Nat,t<(B.ts.set e.a _).length∧(jg (B.jb++[_]) x).task=t∧(sg (B.ts.set e.a _) t).opn=x+1;rw [List.length_set]
  by_cases hq:x=B.jb.length
  ·subst hq;refine ⟨e.a,hi,?_,?_⟩
   ·rw [jg_last]
   ·rw [sg_set' hi,if_pos rfl]
  ·have hx':x<B.jb.length:=by omega
   have he:(jg (B.jb++[_]) x).ended=false:=he;rw [jg_app hx'] at he ⊢;obtain ⟨t,t1,t2,t3⟩:=h.opu x hx' he;refine ⟨t,t1,t2,?_⟩;rw [sg_set' hi,if_neg (fun q=>?_)]
   ·exact t3
   ·subst q;have ho:(sg B.ts e.a).opn=0:=ho;omega
 ·show (sg (B.ts.set e.a _) t).lev=_∧(sg (B.ts.set e.a _) t).dl=_;rw [sg_set' hi]
  by_cases q:t=e.a
  ·subst q;rw [if_pos rfl];exact h.par _ ht
  ·rw [if_neg q];exact h.par t ht
 ·have hx:x<(B.jb++[_]).length:=hx;rw [List.length_append,List.length_singleton] at hx;have he:(jg (B.jb++[_]) x).ended=true:=he
  by_cases hq:x=B.jb.length
  ·subst hq;rw [jg_last] at he
   cases he
  ·have hx':x<B.jb.length:=by omega
   rw [jg_app hx'] at he;show (jg (B.jb++[_]) x).missed=(decide (0<dl (jg (B.jb++[_]) x).task.toNat) && decide (dl (jg (B.jb++[_]) x).task.toNat<w64 ((jg (B.jb++[_]) x).fin-(jg (B.jb++[_]) x).rel)));rw [jg_app hx'];exact h.mis x hx' he
theorem Rl.k8 (h:Rl lv dl n B R) (op:OpJ B.ts B.jb) (hb:B.ts.length=n) {e:Ev} (h8:e.k=8) (ha:e.a<n) (ho:0<(B.t e.a).opn):Rl lv dl n (B.job e) { R with jb:=R.jb.set ((B.t e.a).opn-1) { jg R.jb ((B.t e.a).opn-1) with fin:=e.co,ended:=true } }:=by
 have hi:e.a<B.ts.length:=by omega
 obtain ⟨_,o1,o2,o3⟩:=jbI_of h op hb ha ho;have hpa:=h.par _ ha;unfold Bk.job;rw [if_pos h8];dsimp only;generalize ho':(B.t e.a).opn-1=i at *;have hoi:(sg B.ts e.a).opn=i+1:=by
  have:(sg B.ts e.a).opn=(B.t e.a).opn:=rfl;omega
 refine ⟨?_,(show R.ran = (B.ts.set e.a _).map (·.ran) from h.ran.trans (map_set_same (d:=sk0) (·.ran) (by rfl)).symm),(show R.tak = (B.ts.set e.a _).map (·.tak) from h.tak.trans (map_set_same (d:=sk0) (·.tak) (by rfl)).symm),fun t ht=>?_,fun x hx he=>?_,fun t ht=>?_,fun x hx he=>?_⟩
 ·show R.jb.set i _=(B.jb.set i _).map noM;rw [List.map_set,h.jb,jg_map noM o1];rfl
 ·show SecOk R.sc t (sg (B.ts.set e.a _) t);rw [sg_set' hi]
  by_cases q:t=e.a
  ·subst q;rw [if_pos rfl];exact (h.sec _ ht).congr rfl rfl rfl
  ·rw [if_neg q];exact h.sec t ht
 ·have hx:x<(B.jb.set i _).length:=hx;rw [List.length_set] at hx;have he:(jg (B.jb.set i _) x).ended=false:=he;show ∃ t:Nat,t<(B.ts.set e.a _).length∧(jg (B.jb.set i _) x).task=t∧(sg (B.ts.set e.a _) t).opn=x+1;rw [List.length_set];rw [jg_set' o1] at he ⊢
  by_cases hq:x=i
  ·rw [if_pos hq] at he;cases he
  ·rw [if_neg hq] at he ⊢;obtain ⟨t,t1,t2,t3⟩:=h.opu x hx he;refine ⟨t,t1,t2,?_⟩;rw [sg_set' hi,if_neg (fun q=>?_)]
   ·exact t3
   ·subst q;omega
 ·show (sg (B.ts.set e.a _) t).lev=_∧(sg (B.ts.set e.a _) t).dl=_;rw [sg_set' hi]
  by_cases q:t=e.a
  ·subst q;rw [if_pos rfl];exact h.par _ ht
  ·rw [if_neg q];exact h.par t ht
 ·have hx:x<(B.jb.set i _).length:=hx;rw [List.length_set] at hx;have he:(jg (B.jb.set i _) x).ended=true:=he;show (jg (B.jb.set i _) x).missed=(decide (0<dl (jg (B.jb.set i _) x).task.toNat) && decide (dl (jg (B.jb.set i _) x).task.toNat<w64 ((jg (B.jb.set i _) x).fin-(jg (B.jb.set i _) x).rel)));rw [jg_set' o1] at he ⊢
  by_cases hq:x=i
  ·rw [if_pos hq];show (decide (0<(B.t e.a).dl) && decide ((B.t e.a).dl<w64 (e.co-(jg B.jb i).rel)))=(decide (0<dl (jg B.jb i).task.toNat) && decide (dl (jg B.jb i).task.toNat<w64 (e.co-(jg B.jb i).rel)));rw [o3,Int.toNat_natCast,hpa.2]
  ·rw [if_neg hq] at he ⊢;exact h.mis x hx he
theorem Rl.k9 (h:Rl lv dl n B R) (op:OpJ B.ts B.jb) (hb:B.ts.length=n) (hn:n≤64) {a:Nat} (ha:a<n) (ho:0<(B.t a).opn):Rl lv dl n (B.untidy a) { R with jb:=R.jb.set ((B.t a).opn-1) { jg R.jb ((B.t a).opn-1) with tidy:=false } }:=by
 obtain ⟨_,o1,o2,o3⟩:=jbI_of h op hb ha ho;obtain ⟨k1,k2⟩:=untF_at (who:=(a:Int)) op h.opu B.ts.length (Nat.le_refl _);have hoi:(sg B.ts a).opn=(B.t a).opn:=rfl;refine h.wJ k1 (fun x hx=>?_) ?_
 ·rw [k2 x hx]
  split
  ·rename_i c
   exact ⟨rfl,rfl,fun he=>by rw [c.1] at he;cases he⟩
  ·exact ⟨rfl,rfl,fun _=>rfl⟩
 ·rw [h.jb];refine jb_ext (by simp [k1]) fun x hx=>?_;have hx:x<B.jb.length:=by simpa using hx
  rw [jg_set' (by rw [List.length_map];exact o1),jg_map _ hx,jg_map _ o1,jg_map _ (by rw [k1];exact hx),k2 x hx]
  by_cases q:x=(B.t a).opn-1
  ·subst q;rw [if_pos rfl,if_pos ⟨o2,by rw [o3];omega,.inr o3.symm⟩]
   rfl
  ·rw [if_neg q,if_neg (fun c=>?_)];obtain ⟨t,t1,t2,t3⟩:=h.opu x hx c.1
   rcases c.2.2 with c3 | c3
   ·omega
   ·have:t=a:=by rw [t2] at c3;omega
    subst this;omega
end
section
variable {lv dl:Nat→Int} {n:Nat} {A:Au} {B:Bk} {R:Rb} {S0:List Sk} {sc0:List Sec}
theorem opnS_app {sc:List Sec} {k:Nat} (hk:k<sc.length) (s:Sec) (t:Nat):opnS (sc++[s]) t k=opnS sc t k:=by unfold opnS;rw [scg_app hk]
theorem opI_app {sc:List Sec} {s:Sec} {t:Nat} (hs:s.task≠t):opI (sc++[s]) t=opI sc t:=by
 have hl:(sc++[s]).length=sc.length+1:=by simp
 cases e:opI sc t with
 | none =>
  have e:=fst_none.1 e;refine fst_none.2 fun j hj=>?_;rw [hl] at hj
  by_cases q:j<sc.length
  ·rw [opnS_app q];exact e j q
  ·obtain rfl:j=sc.length:=by omega
   unfold opnS;rw [scg_last];simp [hs]
 | some i =>
  obtain ⟨e1,e2⟩:=fst_of e;refine fst_some (by omega) ?_ fun j hj=>?_
  ·rw [opnS_app e1];exact e2
  ·rw [opnS_app (by omega)];exact fst_lt e hj
theorem Rl.own (h:Rl lv dl n B R) (hb:B.ts.length=n) {a:Nat} (ha:a<n) {M:Int→Option Int} {s:Sk} {sc:List Sec} (h1:s.ran=(B.t a).ran) (h2:s.tak=(B.t a).tak) (h3:s.opn=(B.t a).opn) (h4:s.lev=(B.t a).lev) (h5:s.dl=(B.t a).dl)
  (hs:SecOk sc a s) (ho:∀ t,t<n→t≠a→SecOk sc t (B.t t)):Rl lv dl n ((B.wO M).setS a s) { R with sc:=sc }:=by
 have hi:a<B.ts.length:=by omega
 refine ⟨h.jb,(show R.ran = (B.ts.set a _).map (·.ran) from h.ran.trans (map_set_same (d:=sk0) (·.ran) h1).symm),(show R.tak = (B.ts.set a _).map (·.tak) from h.tak.trans (map_set_same (d:=sk0) (·.tak) h2).symm),fun t ht=>?_,fun x hx he=>?_,fun t ht=>?_,h.mis⟩
 ·show SecOk sc t (sg (B.ts.set a s) t);rw [sg_set' hi]
  by_cases q:t=a
  ·rw [if_pos q,q];exact hs
  ·rw [if_neg q];exact ho t ht q
 ·obtain ⟨t,t1,t2,t3⟩:=h.opu x hx he;refine ⟨t,by show t<(B.ts.set a s).length;rw [List.length_set];exact t1,t2,?_⟩;show (sg (B.ts.set a s) t).opn=_;rw [sg_set' hi]
  by_cases q:t=a
  ·rw [if_pos q,h3];rw [q] at t3;exact t3
  ·rw [if_neg q];exact t3
 ·show (sg (B.ts.set a s) t).lev=_∧(sg (B.ts.set a s) t).dl=_;rw [sg_set' hi]
  by_cases q:t=a
  ·rw [if_pos q,h4,h5,q];exact h.par a ha
  ·rw [if_neg q];exact h.par t ht
theorem wO_t {B:Bk} {M:Int→Option Int} {a t:Nat} (hi:a<B.ts.length) (s:Sk):((B.wO M).setS a s).t t=if t=a then s else B.t t:=sg_set' hi s
theorem Rl.k12 (h:Rl lv dl n B R) (p:Sp n S0 sc0 B R) (hb:B.ts.length=n) {a b:Nat} (ha:a<n) (h0:0≤(B.t a).owns) (hg:0≤(B.t a).lng) {m:Nat} (hm:(m:Int)=(B.t a).owns+1) :
  Rl lv dl n (B.owner 12 a b) (if m=1 then { R with sc:=R.sc++[⟨a,0,true⟩] } else R)∧Sp n S0 sc0 (B.owner 12 a b) (if m=1 then { R with sc:=R.sc++[⟨a,0,true⟩] } else R):=by
 have hi:a<B.ts.length:=by omega
 have q:=h.sec a ha;unfold Bk.owner;rw [if_neg (by decide)]
 by_cases hm1:m=1
 ·have e0:(B.t a).owns=0:=by omega
  have hno:=q.non (by omega);have hno2:=fst_none.1 hno;rw [if_pos hm1,if_pos (by omega)];have hl:(R.sc++[(⟨a,0,true⟩:Sec)]).length=R.sc.length+1:=by simp
  have hlast:opnS (R.sc++[(⟨a,0,true⟩:Sec)]) a R.sc.length=true:=by unfold opnS;rw [scg_last];simp
  have hother:∀ j,j<R.sc.length→opnS (R.sc++[(⟨a,0,true⟩:Sec)]) a j=false:=fun j hj=>by rw [opnS_app hj];exact hno2 j hj
  refine ⟨Rl.own h hb ha rfl rfl rfl rfl rfl ⟨fun _=>⟨R.sc.length,fst_some (by omega) hlast hother,by rw [scg_last]⟩,fun hh=>absurd hh (show ¬ (1:Int)≤0 by decide),fun i j hi hj e1 e2=>?_,?_⟩ fun t ht hta=>?_,fun t ht ho=>?_⟩
  ·by_cases p1:i<R.sc.length
   ·rw [hother i p1] at e1;cases e1
   ·by_cases p2:j<R.sc.length
    ·rw [hother j p2] at e2;cases e2
    ·omega
  ·rw [mostA_app,if_pos rfl,q.most];show max (B.t a).lng 0=(B.t a).lng;omega
  ·have g:=h.sec t ht;have hne:((a:Nat):Int)≠t:=by omega
   refine ⟨fun hp=>?_,fun hp=>by rw [opI_app hne];exact g.non hp,fun i j hi hj e1 e2=>?_,by rw [mostA_app,if_neg hne];exact g.most⟩
   ·obtain ⟨i,i1,i2⟩:=g.has hp;exact ⟨i,by rw [opI_app hne];exact i1,by rw [scg_app (fst_of i1).1];exact i2⟩
   ·have lastf:opnS (R.sc++[(⟨a,0,true⟩:Sec)]) t R.sc.length=false:=by unfold opnS;rw [scg_last];simp [hne]
    by_cases p1:i<R.sc.length
    ·by_cases p2:j<R.sc.length
     ·rw [opnS_app p1] at e1;rw [opnS_app p2] at e2;exact g.uniq i j p1 p2 e1 e2
     ·obtain rfl:j=R.sc.length:=by omega
      rw [lastf] at e2;cases e2
    ·obtain rfl:i=R.sc.length:=by omega
     rw [lastf] at e1;cases e1
  ·obtain ⟨i,i1,i2,i3,i4,i5,i6,i7⟩:=p t ht ho;rw [wO_t hi];refine ⟨i,i1,?_⟩
   try dsimp only
   rw [scg_app i2,opnS_app i2];refine ⟨by omega,i3,i4,?_⟩
   by_cases hta:t=a
   ·subst hta;rw [if_pos rfl];refine ⟨?_,fun hh=>?_,fun _=>hno2 i i2⟩
    ·show _≤(B.t t).secs+1;omega
    ·have hh:(B.t t).secs+1=(sg S0 t).secs:=hh;omega
   ·rw [if_neg hta,opI_app (show ((a:Nat):Int)≠t by omega)];exact ⟨i5,i6,i7⟩
 ·rw [if_neg hm1,if_neg (by omega)];refine ⟨Rl.own h hb ha rfl rfl rfl rfl rfl ⟨fun _=>q.has (by omega),fun hh=>?_,q.uniq,q.most⟩ (fun t ht _=>h.sec t ht),fun t ht ho=>?_⟩
  ·have hh:(B.t a).owns+1≤0:=hh;omega
  ·obtain ⟨i,i1,i2,i3,i4,i5,i6,i7⟩:=p t ht ho;rw [wO_t hi];refine ⟨i,i1,?_⟩
   try dsimp only
   refine ⟨i2,i3,i4,?_⟩
   by_cases hta:t=a
   ·subst hta;rw [if_pos rfl];exact ⟨i5,fun hh=>⟨(i6 hh).1,fun _=>(i6 hh).2 (by omega)⟩,i7⟩
   ·rw [if_neg hta];exact ⟨i5,i6,i7⟩
theorem opnS_op {sc:List Sec} {i:Nat} (hi:i<sc.length) (t k:Nat):opnS (sc.set i { scg sc i with op:=false }) t k=if k=i then false else opnS sc t k:=by
 unfold opnS;rw [scg_set hi]
 by_cases h:k=i
 ·rw [if_pos h,if_pos h];rfl
 ·rw [if_neg h,if_neg h]
theorem Rl.k13 (h:Rl lv dl n B R) (p:Sp n S0 sc0 B R) (hb:B.ts.length=n) {a b:Nat} (ha:a<n) {m:Nat} (hm:(m:Int)=(B.t a).owns-1) :
  Rl lv dl n (B.owner 13 a b) (match opI R.sc a with | some i=>(if m=0 then { R with sc:=R.sc.set i { scg R.sc i with op:=false } } else R) | none=>R)∧Sp n S0 sc0 (B.owner 13 a b) (match opI R.sc a with | some i=>(if m=0 then { R with sc:=R.sc.set i { scg R.sc i with op:=false } } else R) | none=>R):=by
 have hi:a<B.ts.length:=by omega
 have q:=h.sec a ha;obtain ⟨k,k1,k2⟩:=q.has (by omega);obtain ⟨k3,k4⟩:=fst_of k1;unfold Bk.owner;rw [if_pos rfl,k1];dsimp only;have ktask:(scg R.sc k).task=a:=by
  unfold opnS at k4;exact of_decide_eq_true (Bool.and_eq_true_iff.1 k4).2
 by_cases hm0:m=0
 ·rw [if_pos hm0];have e0:(B.t a).owns=1:=by omega
  have off:∀ t,t≠a→∀ j,opnS (R.sc.set k { scg R.sc k with op:=false }) t j=opnS R.sc t j:=fun t hta j=>by
   rw [opnS_op k3]
   by_cases e:j=k
   ·rw [if_pos e,e];unfold opnS;rw [ktask];have:((a:Nat):Int)≠t:=by omega
    simp [this]
   ·rw [if_neg e]
  have hoff:∀ t,t≠a→opI (R.sc.set k { scg R.sc k with op:=false }) t=opI R.sc t:=fun t hta=>by
   unfold opI;rw [List.length_set];exact fst_congr fun j _=>off t hta j
  have nn:∀ j,(scg (R.sc.set k { scg R.sc k with op:=false }) j).n=(scg R.sc j).n∧(scg (R.sc.set k { scg R.sc k with op:=false }) j).task=(scg R.sc j).task:=fun j=>by
   rw [scg_set k3]
   by_cases e:j=k
   ·rw [if_pos e,e];exact ⟨rfl,rfl⟩
   ·rw [if_neg e];exact ⟨rfl,rfl⟩
  refine ⟨Rl.own h hb ha rfl rfl rfl rfl rfl ⟨fun hh=>?_,fun _=>fst_none.2 fun j hj=>?_,fun i j hi hj e1 e2=>?_,by rw [mostA_op a false R.sc 0 k k3];exact q.most⟩ fun t ht hta=>?_,fun t ht ho=>?_⟩
  ·have hh:0<(B.t a).owns-1:=hh;omega
  ·rw [List.length_set] at hj;rw [opnS_op k3]
   by_cases e:j=k
   ·rw [if_pos e]
   ·rw [if_neg e]
    cases e3:opnS R.sc a j with
    | false=>rfl
    | true=>exact absurd (q.uniq j k hj k3 e3 k4) e
  ·rw [List.length_set] at hi hj;rw [opnS_op k3] at e1 e2
   by_cases x1:i=k
   ·rw [if_pos x1] at e1;cases e1
   ·by_cases x2:j=k
    ·rw [if_pos x2] at e2;cases e2
    ·rw [if_neg x1] at e1;rw [if_neg x2] at e2;exact q.uniq i j hi hj e1 e2
  ·have g:=h.sec t ht;refine ⟨fun hp=>?_,fun hp=>by rw [hoff t hta];exact g.non hp,fun i j hi hj e1 e2=>?_,by rw [mostA_op t false R.sc 0 k k3];exact g.most⟩
   ·obtain ⟨i,i1,i2⟩:=g.has hp;exact ⟨i,by rw [hoff t hta];exact i1,by rw [(nn i).1];exact i2⟩
   ·rw [List.length_set] at hi hj;rw [off t hta] at e1 e2;exact g.uniq i j hi hj e1 e2
  ·obtain ⟨i,i1,i2,i3,i4,i5,i6,i7⟩:=p t ht ho;rw [wO_t hi];refine ⟨i,i1,?_⟩
   try dsimp only
   rw [List.length_set];refine ⟨i2,by rw [(nn i).2];exact i3,by rw [(nn i).1];exact i4,?_⟩
   by_cases hta:t=a
   ·subst hta;rw [if_pos rfl];refine ⟨i5,fun hh=>⟨(i6 hh).1,fun h2=>?_⟩,fun hh=>?_⟩
    ·have h2:0<(B.t t).owns-1:=h2;omega
    ·rw [opnS_op k3]
     split
     ·rfl
     ·exact i7 hh
   ·rw [if_neg hta,hoff t hta,off t hta];exact ⟨i5,i6,i7⟩
 ·rw [if_neg hm0];refine ⟨Rl.own h hb ha rfl rfl rfl rfl rfl ⟨fun _=>q.has (by omega),fun hh=>?_,q.uniq,q.most⟩ (fun t ht _=>h.sec t ht),fun t ht ho=>?_⟩
  ·have hh:(B.t a).owns-1≤0:=hh;omega
  ·obtain ⟨i,i1,i2,i3,i4,i5,i6,i7⟩:=p t ht ho;rw [wO_t hi];refine ⟨i,i1,?_⟩
   try dsimp only
   refine ⟨i2,i3,i4,?_⟩
   by_cases hta:t=a
   ·subst hta;rw [if_pos rfl];exact ⟨i5,fun hh=>⟨(i6 hh).1,fun _=>(i6 hh).2 (by omega)⟩,i7⟩
   ·rw [if_neg hta];exact ⟨i5,i6,i7⟩
end
theorem tk_rng {A:Au} (h:AOk A) (v:Nat):0≤(tkAt A v).st∧(tkAt A v).st≤3:=by
 unfold tkAt tkg;rw [List.getD_eq_getElem?_getD]
 cases e:A.ts[v]? with
 | none=>exact ⟨Int.le_refl 0,by decide⟩
 | some x=>exact h.st x (List.mem_of_getElem? e)
theorem loose_iff {n:Nat} {A:Au} {B:Bk} (T:Tie n A B):B.Loose↔looA A=true:=by
 have key:∀ v,v<n→((B.t v).loose=true↔looT (tkAt A v)=true):=fun v hv=>by
  have q:=T.t v hv;have hst:=tk_rng T.ok v;unfold Sk.loose looT;rw [q.idle,q.rdy,q.gone];have h4:(tkAt A v).st=0∨(tkAt A v).st=1∨(tkAt A v).st=2∨(tkAt A v).st=3:=by omega
  rcases h4 with e | e | e | e
  ·rw [e];simp
  ·rw [e];simp
  ·rw [q.on e,e];simp
  ·rw [e];simp
 unfold Bk.Loose looA;rw [List.any_eq_true]
 constructor
 ·rintro ⟨k,v,h1,h2⟩;obtain ⟨k1,k2,k3,k4⟩:=(T.ow k v).1 h1;have hv:=(T.bk.ow k v h1).2;refine ⟨k.toNat,List.mem_range.2 (by omega),?_⟩;unfold looM;rw [k4,show v+1-1=v by omega,decide_eq_true (by omega),Bool.true_and];exact (key v.toNat (by omega)).1 h2
 ·rintro ⟨m,h1,h2⟩;have h1:=List.mem_range.1 h1;unfold looM at h2;obtain ⟨h3,h4⟩:=Bool.and_eq_true_iff.1 h2;have h3:=of_decide_eq_true h3;have how:B.ow m=some (owg A.ow m-1):=(T.ow m _).2 ⟨by omega,by omega,by omega,by rw [Int.toNat_natCast];omega⟩;have hv:=(T.bk.ow _ _ how);exact ⟨m,_,how,(key _ (by omega)).2 h4⟩
section
variable {lv dl:Nat→Int} {n:Nat} {A:Au} {B:Bk} {R:Rb} {S0:List Sk} {sc0:List Sec}
theorem Sp.map (p:Sp n S0 sc0 B R) {C:Bk} {R':Rb} (hs:R'.sc=R.sc) (h1:C.ts.map (fun s=>(s.owns,s.len,s.secs))=B.ts.map (fun s=>(s.owns,s.len,s.secs))):Sp n S0 sc0 C R':=fun t ht ho=>by
 have q:=sg_map (fun s=>(s.owns,s.len,s.secs)) h1 t;have q1:(C.t t).owns=(B.t t).owns:=congrArg (fun x=>x.1) q;have q2:(C.t t).len=(B.t t).len:=congrArg (fun x=>x.2.1) q;have q3:(C.t t).secs=(B.t t).secs:=congrArg (fun x=>x.2.2) q;rw [q1,q2,q3,hs];exact p t ht ho
theorem ig_map (f:Sk→Int) {l:List Sk} {k:Nat} (h:k<l.length):ig (l.map f) k=f (sg l k):=by
 unfold ig sg;rw [List.getD_eq_getElem?_getD,List.getD_eq_getElem?_getD,List.getElem?_map,List.getElem?_eq_getElem h];rfl
theorem Rl.k5 (h:Rl lv dl n B R) (hb:B.ts.length=n) {b:Nat} (hbn:b<n) (run:Int):Rl lv dl n { B.setS b { B.t b with tak:=(B.t b).tak+1 } with run:=run } { R with tak:=R.tak.set b (ig R.tak b+1) }:=by
 have hi:b<B.ts.length:=by omega
 refine ⟨h.jb,(show R.ran = (B.ts.set b _).map (·.ran) from h.ran.trans (map_set_same (d:=sk0) (·.ran) (by rfl)).symm),?_,fun t ht=>?_,fun x hx he=>?_,fun t ht=>?_,h.mis⟩
 ·show R.tak.set b _=(B.ts.set b _).map _;rw [List.map_set,h.tak,ig_map _ hi];rfl
 ·show SecOk R.sc t (sg (B.ts.set b _) t);rw [sg_set' hi]
  by_cases q:t=b
  ·subst q;rw [if_pos rfl];exact (h.sec _ ht).congr rfl rfl rfl
  ·rw [if_neg q];exact h.sec t ht
 ·obtain ⟨t,t1,t2,t3⟩:=h.opu x hx he;refine ⟨t,by show t<(B.ts.set b _).length;rw [List.length_set];exact t1,t2,?_⟩;show (sg (B.ts.set b _) t).opn=_;rw [sg_set' hi]
  by_cases q:t=b
  ·subst q;rw [if_pos rfl];exact t3
  ·rw [if_neg q];exact t3
 ·show (sg (B.ts.set b _) t).lev=_∧(sg (B.ts.set b _) t).dl=_;rw [sg_set' hi]
  by_cases q:t=b
  ·subst q;rw [if_pos rfl];exact h.par _ ht
  ·rw [if_neg q];exact h.par t ht
theorem Rl.learn1 (T:Tie n A B) (op:OpJ B.ts B.jb) (hg:∀ t,t<n→0≤(B.t t).lng) (h:Rl lv dl n B R) (p:Sp n S0 sc0 B R) {e:Ev} (hv:EvOk e) (hk:keepsR A e=true) (he:EvIn n e) :
  Rl lv dl n (B.learn1 e) ((R.tk A e).kind (stepA A e) e)∧Sp n S0 sc0 (B.learn1 e) ((R.tk A e).kind (stepA A e) e):=by
 have T1:=T.learn1 hv hk he;have hb:=T.bk.len;have n64:=T.n64;have hr:rule { A with due:=du0 } e.k.toNat e.a e.b e.v (decide (A.due=duOf e))=true:=by unfold keepsR at hk;exact (Bool.and_eq_true_iff.1 hk).2
 by_cases h5:e.k=5
 ·rw [kind_other _ _ (by omega)];have e1:B.learn1 e={ (if e.b≠255∧(B.t e.b).rdy=true then B.setS e.b { B.t e.b with tak:=(B.t e.b).tak+1 } else B) with run:=e.a }:=by
   unfold Bk.learn1;rw [if_neg (by omega),if_neg (by omega),if_pos h5]
  rw [e1];unfold Rb.tk
  by_cases hc:e.b≠255∧(B.t e.b).rdy=true
  ·have hbn:e.b<n:=(he.sb h5).resolve_left hc.1;have hst:(tkAt A e.b).st=1:=by have q:=(T.t _ hbn).rdy;rw [hc.2] at q;exact of_decide_eq_true q.symm
   rw [if_pos hc,if_pos ⟨h5,hc.1,hst⟩];exact ⟨h.k5 hb hbn _,p.map rfl (map_set_same (d:=sk0) _ rfl)⟩
  ·rw [if_neg hc,if_neg (fun q=>hc ⟨q.2.1,by rw [(T.t _ ((he.sb h5).resolve_left q.2.1)).rdy];exact decide_eq_true q.2.2⟩)];exact both h p rfl rfl
 rw [tk_other R A h5]
 by_cases h3:e.k=3
 ·rw [kind_other _ _ (by omega),show B.learn1 e={ B with ent:=true } by unfold Bk.learn1;rw [if_pos h3]];exact both h p rfl rfl
 by_cases h4:e.k=4
 ·rw [kind_other _ _ (by omega),show B.learn1 e={ B with ent:=false } by unfold Bk.learn1;rw [if_neg h3,if_pos h4]];exact both h p rfl rfl
 by_cases h6:e.k=6
 ·have ha:e.a<n:=he.a (by omega);have e1:B.learn1 e=B.job e:=by unfold Bk.learn1;rw [if_neg h3,if_neg h4,if_neg h5,if_pos (.inl h6)]
  rw [h6] at hr;have hst:(tkAt A e.a).st=0:=of_decide_eq_true (Bool.and_eq_true_iff.1 (show (decide ((tkAt A e.a).st=0) && decide (e.v=((tkAt A e.a).job+1)%4294967296))=true from hr)).1;have ho:(B.t e.a).opn=0:=by
   have q:=(T.t _ ha).opn;rw [hst] at q;have:¬ 0<(B.t e.a).opn:=fun hh=>(q.1 hh) rfl;omega
  have ek:R.kind (stepA A e) e={ R with jb:=R.jb++[⟨e.a,e.v,e.co,0,false,false,0,0,true⟩] }:=by unfold Rb.kind;rw [if_pos h6]
  rw [e1,ek];refine ⟨h.k6 hb h6 ha ho,p.map rfl ?_⟩;unfold Bk.job;rw [if_neg (by omega)];exact map_set_same (d:=sk0) _ rfl
 by_cases h8:e.k=8
 ·have ha:e.a<n:=he.a (by omega);have e1:B.learn1 e=B.job e:=by unfold Bk.learn1;rw [if_neg h3,if_neg h4,if_neg h5,if_pos (.inr h8)]
  have ho:=T.ends hk he h8;have ek:R.kind (stepA A e) e={ R with jb:=R.jb.set ((B.t e.a).opn-1) { jg R.jb ((B.t e.a).opn-1) with fin:=e.co,ended:=true } }:=by
   unfold Rb.kind;rw [if_neg h6,if_pos h8,(jbI_of h op hb ha ho).1]
  rw [e1,ek];refine ⟨h.k8 op hb h8 ha ho,p.map rfl ?_⟩;unfold Bk.job;rw [if_pos h8];exact map_set_same (d:=sk0) _ rfl
 by_cases h9:e.k=9
 ·have ha:e.a<n:=he.a (by omega);have e1:B.learn1 e=if mtx e.b=true then B.setS e.a { B.t e.a with rdy:=false,on:=e.b } else (B.setS e.a { B.t e.a with rdy:=false,on:=e.b }).untidy e.a:=by
   unfold Bk.learn1;rw [if_neg h3,if_neg h4,if_neg h5,if_neg (by omega),if_pos h9]
  rw [h9] at hr;have hst:(tkAt A e.a).st=1:=acts_task (by omega) ((Bool.and_eq_true_iff.1 (show (acts { A with due:=du0 } e.a && (!isMu e.b || decide (owAt A (e.b-32)≠0) && decide (owAt A (e.b-32)≠(e.a:Int)+1)))=true from hr)).1);have ho:0<(B.t e.a).opn:=(T.t _ ha).opn.2 (by rw [hst];decide);have ek:R.kind (stepA A e) e=if mtx e.b=true then R else { R with jb:=R.jb.set ((B.t e.a).opn-1) { jg R.jb ((B.t e.a).opn-1) with tidy:=false } }:=by
   unfold Rb.kind;rw [if_neg h6,if_neg h8,if_pos h9,(jbI_of h op hb ha ho).1]
  have hsame:(B.ts.set e.a { B.t e.a with rdy:=false,on:=e.b }).map q9=B.ts.map q9:=map_set_same (d:=sk0) q9 rfl;obtain ⟨h1,p1⟩:=both h p (C:=B.setS e.a { B.t e.a with rdy:=false,on:=e.b }) hsame rfl;have hop:∀ t,(sg (B.ts.set e.a { B.t e.a with rdy:=false,on:=e.b }) t).opn=(sg B.ts t).opn:=fun t=>congrArg (fun x=>x.2.2.2.2.2.1) (sg_map q9 hsame t);rw [e1,ek]
  by_cases hm:mtx e.b=true
  ·rw [if_pos hm,if_pos hm];exact ⟨h1,p1⟩
  ·rw [if_neg hm,if_neg hm];have op1:OpJ (B.setS e.a { B.t e.a with rdy:=false,on:=e.b }).ts B.jb:=OpJ.congr op (by show (B.ts.set _ _).length=_;rw [List.length_set]) hop;have ho1:((B.setS e.a { B.t e.a with rdy:=false,on:=e.b }).t e.a).opn=(B.t e.a).opn:=hop e.a;have r:=Rl.k9 h1 op1 (by show (B.ts.set _ _).length=_;rw [List.length_set];exact hb) n64 ha (by rw [ho1];exact ho);rw [ho1] at r;exact ⟨r,p1.map rfl rfl⟩
 by_cases h10:e.k=10
 ·rw [kind_other _ _ (by omega),show B.learn1 e=B.setS e.a { B.t e.a with rdy:=true } by unfold Bk.learn1;rw [if_neg h3,if_neg h4,if_neg h5,if_neg (by omega),if_neg h9,if_pos h10]];exact both h p (map_set_same (d:=sk0) q9 rfl) rfl
 by_cases h12:e.k=12
 ·have ha:e.a<n:=he.a (by omega);have e1:B.learn1 e=B.owner 12 e.a e.b:=by unfold Bk.learn1;rw [if_neg h3,if_neg h4,if_neg h5,if_neg (by omega),if_neg h9,if_neg h10,if_pos (.inl h12),h12]
  have q:=(T1.t _ ha).owns;have q0:=(T.t _ ha).owns;have hm:((cntO (stepA A e) e.a:Nat):Int)=(B.t e.a).owns+1:=by
   rw [← q,e1];unfold Bk.owner;rw [if_neg (by decide)];show (sg (B.ts.set e.a _) e.a).owns=_;rw [sg_set' (by omega),if_pos rfl]
   split
   ·rename_i c;exact c.symm
   ·rfl
  rw [e1,show R.kind (stepA A e) e=if cntO (stepA A e) e.a=1 then { R with sc:=R.sc++[⟨e.a,0,true⟩] } else R by unfold Rb.kind;rw [if_neg h6,if_neg h8,if_neg h9,if_pos h12]];exact h.k12 p hb ha (by omega) (hg _ ha) hm
 by_cases h13:e.k=13
 ·have ha:e.a<n:=he.a (by omega);have e1:B.learn1 e=B.owner 13 e.a e.b:=by unfold Bk.learn1;rw [if_neg h3,if_neg h4,if_neg h5,if_neg (by omega),if_neg h9,if_neg h10,if_pos (.inr h13),h13]
  have q:=(T1.t _ ha).owns;have hm:((cntO (stepA A e) e.a:Nat):Int)=(B.t e.a).owns-1:=by
   rw [← q,e1];unfold Bk.owner;rw [if_pos rfl];show (sg (B.ts.set e.a _) e.a).owns=_;rw [sg_set' (by omega),if_pos rfl]
  rw [e1,show R.kind (stepA A e) e=(match opI R.sc e.a with | some i=>(if cntO (stepA A e) e.a=0 then { R with sc:=R.sc.set i { scg R.sc i with op:=false } } else R) | none=>R) by unfold Rb.kind;rw [if_neg h6,if_neg h8,if_neg h9,if_neg h12,if_pos h13];try rfl];exact h.k13 p hb ha hm
 rw [kind_other _ _ (by omega)]
 by_cases h21:e.k=21∨e.k=22
 ·rw [show B.learn1 e=(if e.a<64 then B.setS e.a { B.t e.a with rdy:=false,gone:=true } else B) by unfold Bk.learn1;rw [if_neg h3,if_neg h4,if_neg h5,if_neg (by omega),if_neg h9,if_neg h10,if_neg (by omega),if_pos h21]]
  split
  ·exact both h p (map_set_same (d:=sk0) q9 rfl) rfl
  ·exact ⟨h,p⟩
 ·rw [learn1_other B (by omega)];exact ⟨h,p⟩
theorem Rl.learn {M:Int} (T:Tie n A B) (G:Gr n M B) (hM:0≤M) (h:Rl lv dl n B R) (p:Sp n S0 sc0 B R) {e:Ev} (hv:EvOk e) (hk:keepsR A e=true) (he:EvIn n e) :
  Rl lv dl n (B.learn e) (R.ev A e)∧Sp n S0 sc0 (B.learn e) (R.ev A e):=by
 obtain ⟨h1,p1⟩:=Rl.learn1 T G.op (fun t ht=>(G.tk t ht).2.1) h p hv hk he;have T1:=T.learn1 hv hk he;have G1:=(G.learn1 hM e (T.ends hk he)).1;unfold Bk.learn Rb.ev Rb.lo
 by_cases hl:looA (stepA A e)=true
 ·rw [if_pos ((loose_iff T1).2 hl),if_pos hl];exact ⟨h1.unt G1.op,p1.map rfl rfl⟩
 ·rw [if_neg (fun q=>hl ((loose_iff T1).1 q)),if_neg hl];exact ⟨h1,p1⟩
end
theorem Rl.evs {lv dl:Nat→Int} {n:Nat} {M:Int} (hM:0≤M) {S0:List Sk} {sc0:List Sec} {r:List Ev}:∀ {l:List Ev} {A:Au} {B:Bk} {R:Rb},Tie n A B→Gr n M B→Rl lv dl n B R→Sp n S0 sc0 B R→chk A (l++r)=none→(∀ e∈l,EvFit n e) →
  Tie n (auS A l) (B.learns l)∧Gr n M (B.learns l)∧Rl lv dl n (B.learns l) (R.evs A l)∧Sp n S0 sc0 (B.learns l) (R.evs A l)∧chk (auS A l) r=none
 | [],A,B,R,T,G,h,p,hc,_=>⟨T,G,h,p,hc⟩
 | e::l,A,B,R,T,G,h,p,hc,hf=>by
  obtain ⟨h1,h2⟩:=chk_cons (show chk A (e::(l++r))=none from hc);have f:=hf e (by simp);have he:=evIn_of (keeps_ok h1) f.2;obtain ⟨g1,g2⟩:=Rl.learn T G hM h p f.1 h1 he;exact Rl.evs (l:=l) hM (T.learn f.1 h1 he) (G.learn hM e (T.ends h1 he)).1 g1 g2 h2 fun x hx=>hf x (by simp [hx])
section
variable {lv dl:Nat→Int} {n:Nat} {A:Au} {B:Bk} {R:Rb} {S0:List Sk} {sc0:List Sec}
theorem Rl.sp (h:Rl lv dl n B R):Sp n B.ts R.sc B R:=fun t ht ho=>by
 obtain ⟨i,i1,i2⟩:=(h.sec t ht).has ho;obtain ⟨i3,i4⟩:=fst_of i1;unfold opnS at i4;exact ⟨i,i1,i3,of_decide_eq_true (Bool.and_eq_true_iff.1 i4).2,i2,Int.le_refl _,fun _=>⟨rfl,fun _=>i1⟩,fun q=>absurd q (Int.lt_irrefl _)⟩
theorem SecOk.inc {sc:List Sec} {t i:Nat} {s s':Sk} (g:SecOk sc t s) (hi:i<sc.length) {x:Int} (hx:(scg sc i).n≤x) (e1:s'.owns=s.owns) (hlen:∀ j,opI sc t=some j→s'.len=if j=i then x else s.len) (hl:s'.lng=if (scg sc i).task=t then max s.lng x else s.lng):SecOk (sc.set i { scg sc i with n:=x }) t s':=by
 refine ⟨fun hp=>?_,fun hp=>by rw [opI_n hi];exact g.non (by omega),fun j k hj hk a b=>?_,by rw [mostA_set t sc 0 i hi hx,hl,g.most]⟩
 ·obtain ⟨j,j1,j2⟩:=g.has (by omega);refine ⟨j,by rw [opI_n hi];exact j1,?_⟩;rw [scg_set hi,hlen j j1]
  by_cases q:j=i
  ·rw [if_pos q,if_pos q]
  ·rw [if_neg q,if_neg q];exact j2
 ·rw [List.length_set] at hj hk;rw [opnS_n hi] at a b;exact g.uniq j k hj hk a b
theorem Rl.run1 (h:Rl lv dl n B R) (hb:B.ts.length=n) {r:Nat} (ha:r<n) {s:Sk} {sc:List Sec} (h1:s.ran=w64 ((B.t r).ran+1)) (h2:s.tak=(B.t r).tak) (h3:s.opn=(B.t r).opn) (h4:s.lev=(B.t r).lev) (h5:s.dl=(B.t r).dl)
  (hs:SecOk sc r s) (ho:∀ t,t<n→t≠r→SecOk sc t (B.t t)):Rl lv dl n (B.setS r s) { R with ran:=R.ran.set r (w64 (ig R.ran r+1)),sc:=sc }:=by
 have hi:r<B.ts.length:=by omega
 refine ⟨h.jb,?_,(show R.tak = (B.ts.set r _).map (·.tak) from h.tak.trans (map_set_same (d:=sk0) (·.tak) h2).symm),fun t ht=>?_,fun x hx he=>?_,fun t ht=>?_,h.mis⟩
 ·show R.ran.set r _=(B.ts.set r s).map _;rw [List.map_set,h.ran,ig_map _ hi,h1];rfl
 ·show SecOk sc t (sg (B.ts.set r s) t);rw [sg_set' hi]
  by_cases q:t=r
  ·rw [if_pos q,q];exact hs
  ·rw [if_neg q];exact ho t ht q
 ·obtain ⟨t,t1,t2,t3⟩:=h.opu x hx he;refine ⟨t,by show t<(B.ts.set r s).length;rw [List.length_set];exact t1,t2,?_⟩;show (sg (B.ts.set r s) t).opn=_;rw [sg_set' hi]
  by_cases q:t=r
  ·rw [if_pos q,h3];rw [q] at t3;exact t3
  ·rw [if_neg q];exact t3
 ·show (sg (B.ts.set r s) t).lev=_∧(sg (B.ts.set r s) t).dl=_;rw [sg_set' hi]
  by_cases q:t=r
  ·rw [if_pos q,h4,h5,q];exact h.par r ha
  ·rw [if_neg q];exact h.par t ht
theorem Rl.lowS (h:Rl lv dl n B R) (op:OpJ B.ts B.jb) (hb:B.ts.length=n) {r:Nat} (hr:r<n):Rl lv dl n (B.wJ (lowF B.ts (B.t r).lev 1 B.ts.length B.jb)) { R with jb:=lowJ lv r R.jb }:=by
 obtain ⟨k1,k2⟩:=lowF_at (lv:=(B.t r).lev) (n:=1) op h.opu B.ts.length (Nat.le_refl _);refine h.wJ k1 (fun x hx=>?_) ?_
 ·rw [k2 x hx]
  split
  ·rename_i c
   exact ⟨rfl,rfl,fun he=>by rw [c.1] at he;cases he⟩
  ·exact ⟨rfl,rfl,fun _=>rfl⟩
 ·rw [h.jb];refine jb_ext (by unfold lowJ;simp [k1]) fun x hx=>?_;have hx:x<B.jb.length:=by unfold lowJ at hx;simpa using hx
  unfold lowJ;rw [jg_map _ (by simpa using hx),jg_map _ hx,jg_map _ (by rw [k1];exact hx),k2 x hx]
  by_cases he:(jg B.jb x).ended=false
  ·obtain ⟨t,t1,t2,_⟩:=h.opu x hx he;have q1:lv (noM (jg B.jb x)).task.toNat=lv t:=by
    show lv (jg B.jb x).task.toNat=_;rw [t2,Int.toNat_natCast]
   have q2:(sg B.ts (jg B.jb x).task.toNat).lev=lv t:=by
    rw [t2,Int.toNat_natCast];exact (h.par t (by omega)).1
   have q3:=(h.par r hr).1
   by_cases c:lv t<lv r
   ·rw [if_pos ⟨he,by rw [q1];exact c⟩,if_pos ⟨he,by rw [t2];omega,by rw [q2,q3];exact c⟩];rfl
   ·rw [if_neg (fun q=>c (by have:=q.2;rwa [q1] at this)),if_neg (fun q=>c (by have:=q.2.2;rwa [q2,q3] at this))]
  ·rw [if_neg (fun q=>he q.1),if_neg (fun q=>he q.1)]
theorem Rl.close {M:Int} (T:Tie n A B) (G:Gr n M B) (hM:0≤M∧M<1000000) (h:Rl lv dl n B R) (p:Sp n S0 sc0 B R) (h0:∀ t,t<n→(sg S0 t).owns≤0→opI sc0 t=none) (hS0:∀ t,t<n→0≤(sg S0 t).len∧(sg S0 t).len≤M) (line:Bool) :
  Rl lv dl n (B.close line S0) (if line=true∨A.run=0 then R else R.ranS lv (A.run-1).toNat (opI sc0 (A.run-1).toNat)):=by
 have hb:=T.bk.len;have hrun:=T.run;have hAr:=T.ok.run;unfold Bk.close
 by_cases c:line=true∨A.run=0
 ·rw [if_pos c,if_pos (c.imp id fun q=>by rw [hrun,if_pos q])];exact h
 ·have c1:¬ A.run=0:=fun q=>c (.inr q);rw [if_neg c1] at hrun;have c2:¬ B.run=255:=by omega
  have hrn:=T.bk.run.resolve_left c2;rw [if_neg c,if_neg (fun q=>q.elim (fun a=>c (.inl a)) c2),← hrun];obtain ⟨r,hr⟩:∃ r:Nat,B.run=r:=⟨B.run.toNat,by omega⟩;have hrl:r<n:=by omega
  have hi:r<B.ts.length:=by omega
  rw [hr,Int.toNat_natCast];have hwl:=hS0 r hrl;have ne255:¬ ((r:Int)=255∨(1:Int)=0):=by omega
  dsimp only;have fin:∀ (s:Sk) (sc:List Sec),s.ran=w64 ((B.t r).ran+1)→s.tak=(B.t r).tak→s.opn=(B.t r).opn→s.lev=(B.t r).lev→s.dl=(B.t r).dl→SecOk sc r s→(∀ t,t<n→t≠r→SecOk sc t (B.t t)) →
    Rl lv dl n ((B.setS r s).wJ (lowF (B.setS r s).ts ((B.setS r s).t r).lev 1 (B.setS r s).ts.length (B.setS r s).jb)) { jb:=lowJ lv r R.jb,ran:=R.ran.set r (w64 (ig R.ran r+1)),tak:=R.tak,sc:=sc }:=fun s sc a1 a2 a3 a4 a5 a6 a7=>by
   have q:=h.run1 hb hrl a1 a2 a3 a4 a5 a6 a7;have op1:OpJ (B.setS r s).ts (B.setS r s).jb:=OpJ.congr G.op (by show (B.ts.set _ _).length=_;rw [List.length_set]) fun t=>by
    show (sg (B.ts.set r s) t).opn=_;rw [sg_set' hi]
    by_cases e:t=r
    ·rw [if_pos e,a3,e];rfl
    ·rw [if_neg e]
   exact q.lowS op1 (by show (B.ts.set _ _).length=_;rw [List.length_set];exact hb) hrl
  have gr:=h.sec r hrl;unfold Rb.ranS
  by_cases ho:0<(sg S0 r).owns
  ·obtain ⟨i,i1,i2,i3,i4,i5,i6,i7⟩:=p r hrl ho;have hx:w64 ((scg R.sc i).n+1)=(scg R.sc i).n+1:=Int.emod_eq_of_lt (by omega) (by omega);have hothers:∀ t,t<n→t≠r→SecOk (R.sc.set i { scg R.sc i with n:=(scg R.sc i).n+1 }) t (B.t t):=fun t ht hne=>by
    refine (h.sec t ht).inc i2 (by omega) rfl (fun j hj=>?_) ?_
    ·have hj2:=(fst_of hj).2;unfold opnS at hj2;have hj3:=of_decide_eq_true (Bool.and_eq_true_iff.1 hj2).2;rw [if_neg];intro e;rw [e,i3] at hj3;omega
    ·rw [if_neg (by rw [i3];omega)]
   rw [i1];dsimp only;rw [hx]
   by_cases hs:(sg S0 r).secs<(B.t r).secs
   ·rw [if_pos ⟨ho,hs⟩];have hw:w64 ((sg S0 r).len+1)=(scg R.sc i).n+1:=by rw [← i4];exact hx
    rw [hw];generalize hx1:(scg R.sc i).n+1=x at *;have e1:(B.setS r { B.t r with lng:=max (B.t r).lng x }).t r={ B.t r with lng:=max (B.t r).lng x }:=by
     show sg (B.ts.set r _) r=_;rw [sg_set' hi,if_pos rfl]
    unfold Bk.ran;rw [if_neg ne255,Int.toNat_natCast,e1];have e2:∀ y,(B.setS r { B.t r with lng:=max (B.t r).lng x }).setS r y=B.setS r y:=fun y=>by
     unfold Bk.setS;rw [List.set_set]
    dsimp only;rw [e2];refine fin _ _ rfl rfl rfl rfl rfl ?_ hothers;refine gr.inc i2 (by omega) rfl (fun j hj=>?_) ?_
    ·rw [if_neg]
     ·rfl
     ·intro e;have hj2:=(fst_of hj).2;rw [e,i7 hs] at hj2
      cases hj2
    ·rw [if_pos i3];rfl
   ·rw [if_neg (fun q=>hs q.2),decide_eq_true ho];have hse:(B.t r).secs=(sg S0 r).secs:=by omega
    obtain ⟨j1,j2⟩:=i6 hse;have hw:w64 ((B.t r).len+1)=(scg R.sc i).n+1:=by rw [j1,← i4];exact hx
    unfold Bk.ran;rw [if_neg ne255,Int.toNat_natCast];refine fin _ _ rfl rfl rfl rfl rfl ?_ hothers;refine gr.inc i2 (by omega) rfl (fun j hj=>?_) ?_
    ·have how:0<(B.t r).owns:=by
      by_cases q:0<(B.t r).owns
      ·exact q
      ·rw [gr.non (by omega)] at hj;cases hj
     rw [j2 how] at hj;rw [if_pos (Option.some.inj hj).symm,← hw];rfl
    ·rw [if_pos i3,← hw];rfl
  ·rw [h0 r hrl (by omega),if_neg (fun q=>ho q.1),decide_eq_false ho];unfold Bk.ran;rw [if_neg ne255,Int.toNat_natCast];exact fin _ _ rfl rfl rfl rfl rfl (gr.congr rfl rfl rfl) fun t ht _=>h.sec t ht
theorem Rl.stp {M:Int} (T:Tie n A B) (G:Gr n M B) (hM:0≤M∧M<1000000) (h:Rl lv dl n B R) {l r:List Ev} (hc:chk A (l++r)=none) (hf:∀ e∈l,EvFit n e) :
  Rl lv dl n (B.step l) (R.stp lv A l):=by
 obtain ⟨T1,G1,h1,p1,_⟩:=Rl.evs hM.1 T G h h.sp hc hf;unfold Bk.step Rb.stp;rw [← T.ent];exact Rl.close T1 G1 hM h1 p1 (fun t ht ho=>(h.sec t ht).non ho) (fun t ht=>(G.tk t ht).1) _
end
end Go.Proofs.YtkeommmigopnkaaGreatDoor
namespace Go.St
open Go.Au Go.Hi Go.Sx
def bndR (lv:Nat→Int) (sc:List Sec) (v:Int) (k:Nat) (x:Int):Int:=(List.range k).foldl (fun s i=>if v<lv i then w64 (s+mostA i 0 sc) else s) x
def finR (lv dl:Nat→Int) (n:Nat) (sc:List Sec) (last:Int) (j:Jb):Jb :=
 { j with tidy:=j.ended && j.tidy,missed:=decide (0<dl j.task.toNat) && decide (dl j.task.toNat<w64 ((if j.ended=true then j.fin else last)-j.rel)),bound:=bndR lv sc (lv j.task.toNat) n j.bound }
end Go.St
namespace Go.Proofs.YtkeommmigopnkaaGreatDoor
open Go.RowKit Go.Sx Go.Dl Go.Lk Go.Rq Go.Au Go.Hi Go.St
theorem w64_add (a b c:Int):w64 (w64 (a+b)+c)=w64 (a+(b+c)):=by
 show ((a+b)%18446744073709551616+c)%18446744073709551616=(a+(b+c))%18446744073709551616;omega
theorem quiet_zero (B:Bk):B.quiet 0=B:=by
 unfold Bk.quiet Bk.ran
 split
 ·rfl
 ·rw [if_pos (.inr rfl)]
theorem ran_succ {n:Nat} {M m:Int} {B:Bk} (G:Gr n M B) (hu:OpU B.ts B.jb) (hm:0≤m) (hM:0≤M∧M+m<1000000) {who:Int} (hw:0≤who∧who<n) (hne:who≠255) (inn:Bool):(B.ran who m inn).ran who 1 inn=B.ran who (m+1) inn:=by
 by_cases h0:m=0
 ·rw [h0];rw [show B.ran who 0 inn=B by unfold Bk.ran;rw [if_pos (.inr rfl)]]
  rfl
 ·obtain ⟨r,rfl⟩:∃ r:Nat,who=r:=⟨who.toNat,by omega⟩;have hi:r<B.ts.length:=by rw [G.len];omega
  have q:=G.tk r (by omega);have hgo:((B.t r).go m inn).go 1 inn=(B.t r).go (m+1) inn:=by
   have a1:w64 ((B.t r).len+m)=(B.t r).len+m:=Int.emod_eq_of_lt (by show 0≤(sg B.ts r).len+m;omega) (by show (sg B.ts r).len+m<_;omega);have a2:w64 ((B.t r).len+m+1)=(B.t r).len+m+1:=Int.emod_eq_of_lt (by show 0≤(sg B.ts r).len+m+1;omega) (by show (sg B.ts r).len+m+1<_;omega);have a3:w64 ((B.t r).len+(m+1))=(B.t r).len+m+1:=by rw [← Int.add_assoc];exact a2
   unfold Sk.go
   cases inn with
   | true =>
    simp only [if_true];have a4:max (max (B.t r).lng ((B.t r).len+m)) ((B.t r).len+m+1)=max (B.t r).lng ((B.t r).len+m+1):=by omega
    simp only [w64_add,a1,a2,a3,a4]
   | false =>
    simp only [Bool.false_eq_true,if_false];rw [w64_add]
  have hS:∀ (x:Sk) (C:Bk),r<C.ts.length→(C.setS r x).t r=x:=fun x C h=>by
   show sg (C.ts.set r x) r=x;rw [sg_set' h,if_pos rfl]
  have c0:∀ k:Int,0<k→¬ ((r:Int)=255∨k=0):=fun k hk=>by omega
  have e1:∀ (k:Int) (C:Bk),0<k→r<C.ts.length→C.ran r k inn=(C.setS r ((C.t r).go k inn)).wJ (lowF (C.ts.set r ((C.t r).go k inn)) ((C.t r).lev) k C.ts.length C.jb):=fun k C hk hC=>by
   unfold Bk.ran;rw [if_neg (c0 k hk),Int.toNat_natCast];dsimp only;rw [hS _ C hC,go_lev];show _=(C.setS r _).wJ (lowF _ _ _ C.ts.length C.jb);rw [show (C.setS r ((C.t r).go k inn)).ts.length=C.ts.length from List.length_set]
   rfl
  have opS:∀ x:Sk,x.opn=(B.t r).opn→OpJ (B.ts.set r x) B.jb:=fun x hx=>OpJ.congr G.op (List.length_set) fun t=>by
   rw [sg_set' hi]
   by_cases e:t=r
   ·rw [if_pos e,hx,e];rfl
   ·rw [if_neg e]
  have ouS:∀ x:Sk,x.opn=(B.t r).opn→OpU (B.ts.set r x) B.jb:=fun x hx y hy he=>by
   obtain ⟨t,t1,t2,t3⟩:=hu y hy he;refine ⟨t,by rw [List.length_set];exact t1,t2,?_⟩;rw [sg_set' hi]
   by_cases e:t=r
   ·rw [if_pos e,hx,← t3,e];rfl
   ·rw [if_neg e];exact t3
  obtain ⟨x1,hx1⟩:∃ x,x=(B.t r).go m inn:=⟨_,rfl⟩;obtain ⟨x2,hx2⟩:∃ x,x=(B.t r).go (m+1) inn:=⟨_,rfl⟩;have o1:x1.opn=(B.t r).opn:=by rw [hx1];exact go_opn ..
  have o2:x2.opn=(B.t r).opn:=by rw [hx2];exact go_opn ..
  have l1:x1.lev=(B.t r).lev:=by rw [hx1];exact go_lev ..
  have l2:x2.lev=(B.t r).lev:=by rw [hx2];exact go_lev ..
  rw [e1 m B (by omega) hi,e1 (m+1) B (by omega) hi,← hx1,← hx2];obtain ⟨k1,k2⟩:=lowF_at (lv:=(B.t r).lev) (n:=m) (opS x1 o1) (ouS x1 o1) B.ts.length (by rw [List.length_set];exact Nat.le_refl _);obtain ⟨J1,hJ1⟩:∃ J,J=lowF (B.ts.set r x1) ((B.t r).lev) m B.ts.length B.jb:=⟨_,rfl⟩;rw [← hJ1] at k1 k2 ⊢;have hi1:r<((B.setS r x1).wJ J1).ts.length:=by show r<(B.ts.set r x1).length;rw [List.length_set];exact hi
  have t1:((B.setS r x1).wJ J1).t r=x1:=hS x1 B hi;rw [e1 1 _ (by decide) hi1,t1,l1];have g2:x1.go 1 inn=x2:=by rw [hx1,hx2];exact hgo
  rw [g2];have ee:((B.setS r x1).wJ J1).ts.set r x2=B.ts.set r x2:=by
   show (B.ts.set r x1).set r x2=_;rw [List.set_set]
  rw [ee];have ejb:∀ x,x<B.jb.length→(jg J1 x).ended=(jg B.jb x).ended∧(jg J1 x).task=(jg B.jb x).task:=fun x hx=>by
   rw [k2 x hx];split<;>exact ⟨rfl,rfl⟩
  have opJ1:OpJ (B.ts.set r x2) J1:=fun t ht hp=>by
   obtain ⟨p1,p2,p3⟩:=opS x2 o2 t ht hp;have:=ejb ((sg (B.ts.set r x2) t).opn-1) (by omega);exact ⟨by rw [k1];exact p1,this.1.trans p2,this.2.trans p3⟩
  have ouJ1:OpU (B.ts.set r x2) J1:=fun y hy he=>by
   rw [k1] at hy;obtain ⟨t,p1,p2,p3⟩:=ouS x2 o2 y hy (by rw [← (ejb y hy).1];exact he);exact ⟨t,p1,(ejb y hy).2.trans p2,p3⟩
  have hlen:((B.setS r x1).wJ J1).ts.length=B.ts.length:=List.length_set;have hjb:((B.setS r x1).wJ J1).jb=J1:=rfl;rw [hlen,hjb];obtain ⟨m1,m2⟩:=lowF_at (lv:=(B.t r).lev) (n:=1) opJ1 ouJ1 B.ts.length (by rw [List.length_set];exact Nat.le_refl _);obtain ⟨p1,p2⟩:=lowF_at (lv:=(B.t r).lev) (n:=m+1) (opS x2 o2) (ouS x2 o2) B.ts.length (by rw [List.length_set];exact Nat.le_refl _);have eJ:lowF (B.ts.set r x2) ((B.t r).lev) 1 B.ts.length J1=lowF (B.ts.set r x2) ((B.t r).lev) (m+1) B.ts.length B.jb:=by
   refine jb_ext (by rw [m1,k1,p1]) fun x hx=>?_;rw [m1,k1] at hx;have lev2:∀ t,(sg (B.ts.set r x1) t).lev=(sg (B.ts.set r x2) t).lev:=fun t=>by
    rw [sg_set' hi,sg_set' hi]
    by_cases e:t=r
    ·rw [if_pos e,if_pos e,l1,l2]
    ·rw [if_neg e,if_neg e]
   rw [m2 x (by rw [k1];exact hx),p2 x hx,(ejb x hx).1,(ejb x hx).2,k2 x hx,lev2]
   by_cases c:(jg B.jb x).ended=false∧(jg B.jb x).task<B.ts.length∧(sg (B.ts.set r x2) (jg B.jb x).task.toNat).lev<(B.t r).lev
   ·rw [if_pos c,if_pos c,if_pos c];dsimp only;rw [w64_add]
   ·rw [if_neg c,if_neg c,if_neg c]
  rw [eJ];unfold Bk.setS Bk.wJ;dsimp only;rw [List.set_set]
theorem quiet_succ {n:Nat} {M m:Int} {B:Bk} (G:Gr n M B) (hu:OpU B.ts B.jb) (hm:0≤m) (hM:0≤M∧M+m<1000000) (hr:B.run=255∨0≤B.run∧B.run<n):(B.quiet m).step []=B.quiet (m+1):=by
 show (B.quiet m).close ((B.quiet m).ent || false) (B.quiet m).ts=_;rw [Bool.or_false];unfold Bk.quiet
 by_cases c:B.ent=true∨B.run=255
 ·rw [if_pos c,if_pos c];unfold Bk.close;rw [if_pos c]
 ·rw [if_neg c,if_neg c];have hcr:=core_ran B B.run m (decide (0<(B.t B.run.toNat).owns));generalize hC:B.ran B.run m (decide (0<(B.t B.run.toNat).owns))=C at *;obtain ⟨h1,h2,h3,h4⟩:=hcr;unfold Bk.close;rw [h4,h3,if_neg c];dsimp only;have ho:(sg C.ts B.run.toNat).owns=(B.t B.run.toNat).owns:=by
   have:=h1 B.run.toNat;unfold core at this;simp only [Prod.mk.injEq] at this;exact this.2.2.2.2.2
  rw [if_neg (fun q=>absurd q.2 (Int.lt_irrefl _)),ho,← hC];exact ran_succ G hu hm hM (hr.resolve_left fun q=>c (.inr q)) (fun q=>c (.inr q)) _
def QB (B:Bk) (l:List Ev) (k:Nat) (s:Int):Bk:=if k=0 then B else B.quiet (s-(evg l (k-1)).co-1)
structure RAt (lv dl:Nat→Int) (n:Nat) (ts:List Sk) (l:List Ev) (s:Int) (k:Nat) (A:Au) (B:Bk) (R:Rb):Prop where
 at_:At n ts l k A B
 lt:k<l.length
 lo:k=0→s=(evg l 0).co
 lo2:0<k→(evg l (k-1)).co<s
 hi:s≤(evg l k).co
 opu:OpU B.ts B.jb
 r:Rl lv dl n (QB B l k s) R
theorem ev_len (R:Rb) (A:Au) (e:Ev):(R.ev A e).jb.length≤R.jb.length+1∧(R.ev A e).sc.length≤R.sc.length+1:=by
 have h1:∀ A:Au,(R.tk A e).jb=R.jb∧(R.tk A e).sc=R.sc:=fun A=>by unfold Rb.tk;split<;>exact ⟨rfl,rfl⟩
 have h2:∀ (Q:Rb) (A:Au),(Q.kind A e).jb.length≤Q.jb.length+1∧(Q.kind A e).sc.length≤Q.sc.length+1:=fun Q A=>by
  unfold Rb.kind
  split
  ·exact ⟨by simp,by simp⟩
  ·split
   ·split
    ·exact ⟨by simp,by simp⟩
    ·exact ⟨by simp,by simp⟩
   ·split
    ·split
     ·split
      ·exact ⟨by simp,by simp⟩
      ·exact ⟨by simp,by simp⟩
     ·exact ⟨by simp,by simp⟩
    ·split
     ·split
      ·exact ⟨by simp,by simp⟩
      ·exact ⟨by simp,by simp⟩
     ·split
      ·split
       ·split
        ·exact ⟨by simp,by simp⟩
        ·exact ⟨by simp,by simp⟩
       ·exact ⟨by simp,by simp⟩
      ·exact ⟨by simp,by simp⟩
 have h3:∀ (Q:Rb) (A:Au),(Q.lo A).jb.length=Q.jb.length∧(Q.lo A).sc=Q.sc:=fun Q A=>by
  unfold Rb.lo unJ;split
  ·exact ⟨by simp,rfl⟩
  ·exact ⟨rfl,rfl⟩
 unfold Rb.ev;have a:=h1 A;have b:=h2 (R.tk A e) (stepA A e);have c:=h3 ((R.tk A e).kind (stepA A e) e) (stepA A e);rw [c.1,c.2];rw [a.1,a.2] at b;exact b
theorem evs_len:∀ (l:List Ev) (R:Rb) (A:Au),(R.evs A l).jb.length≤R.jb.length+l.length∧(R.evs A l).sc.length≤R.sc.length+l.length
 | [],R,A=>⟨Nat.le_refl _,Nat.le_refl _⟩
 | e::l,R,A=>by
  have a:=ev_len R A e;have b:=evs_len l (R.ev A e) (stepA A e);refine ⟨?_,?_⟩
  ·show (Rb.evs (R.ev A e) (stepA A e) l).jb.length≤_;rw [List.length_cons];omega
  ·show (Rb.evs (R.ev A e) (stepA A e) l).sc.length≤_;rw [List.length_cons];omega
theorem stp_len (lv:Nat→Int) (l:List Ev) (R:Rb) (A:Au):(R.stp lv A l).jb.length≤R.jb.length+l.length∧(R.stp lv A l).sc.length≤R.sc.length+l.length:=by
 have a:=evs_len l R A;unfold Rb.stp
 split
 ·exact a
 ·unfold Rb.ranS lowJ;refine ⟨by simpa using a.1,?_⟩;dsimp only
  split
  ·simpa using a.2
  ·exact a.2
section
variable {lv dl:Nat→Int} {n:Nat} {ts:List Sk} {l:List Ev} {s:Int} {k:Nat} {A:Au} {B:Bk} {R:Rb}
theorem RAt.qgr (S:Span n l) (h:RAt lv dl n ts l s k A B R):Tie n A (QB B l k s)∧Gr n 4000 (QB B l k s):=by
 have hk:=Mk_rng S (k:=k) (by have:=h.lt;omega);unfold QB
 split
 ·exact ⟨h.at_.b.1,h.at_.g.up (by omega)⟩
 ·rename_i hk0
  have a:=h.lo2 (by omega);have b:=h.hi;have c:=S.sp k h.lt;have d:=S.up 0 (k-1) (by omega) (by have:=h.lt;omega);exact ⟨h.at_.b.1.quiet _,(h.at_.g.quiet (m:=s-(evg l (k-1)).co-1) (by omega) (by omega) h.at_.b.1.bk.run).1.up (by omega)⟩
theorem RAt.step (S:Span n l) (hf:∀ e∈l,EvFit n e) (h:RAt lv dl n ts l s k A B R) {e:Nat} (h1:k≤e) (h2:e≤l.length) (h3:∀ i,k≤i→i<e→(evg l i).co=s) (h4:e=l.length∨(evg l e).co≠s) :
  (s≠(evg l (l.length-1)).co→∃ B',RAt lv dl n ts l (s+1) e (auS A ((l.drop k).take (e-k))) B' (R.stp lv A ((l.drop k).take (e-k)))) ∧
  (s=(evg l (l.length-1)).co→e=l.length∧Rl lv dl n ((bk0 ts).steps none l) (R.stp lv A ((l.drop k).take (e-k)))∧Gr n 2002 ((bk0 ts).steps none l)∧Tie n (auS A ((l.drop k).take (e-k))) ((bk0 ts).steps none l)):=by
 obtain ⟨T,G⟩:=h.qgr S;have hlt:=h.lt;have hsub:∀ x∈(l.drop k).take (e-k),EvFit n x:=fun x hx=>hf x (List.mem_of_mem_drop (List.mem_of_mem_take hx));have hck:chk A ((l.drop k).take (e-k)++l.drop e)=none:=by
  have e1:(l.drop k).take (e-k)++l.drop e=l.drop k:=by
   have:=List.take_append_drop (e-k) (l.drop k);rw [List.drop_drop,show k+(e-k)=e by omega] at this;exact this
  rw [e1];exact h.at_.b.2.1
 have hR:=Rl.stp T G ⟨by decide,by decide⟩ h.r hck hsub
 by_cases hke:k=e
 ·subst hke;have hlt2:s<(evg l k).co:=by
   have:=h.hi
   rcases h4 with h4 | h4<;>omega
  have hk0:0<k:=by
   rcases Nat.eq_zero_or_pos k with q | q
   ·subst q;have:=h.lo rfl;omega
   ·exact q
  have ek:(l.drop k).take (k-k)=[]:=by rw [Nat.sub_self];rfl
  rw [ek] at hR ⊢;have hM:=Mk_rng S (k:=k) (by omega);have c1:=h.lo2 hk0;have c2:=S.sp k h.lt;have c3:=S.up 0 (k-1) (by omega) (by omega);refine ⟨fun hs=>⟨B,h.at_,hlt,fun q=>by omega,fun _=>by omega,by omega,h.opu,?_⟩,fun hs=>?_⟩
  ·have e2:(QB B l k s).step []=QB B l k (s+1):=by
    unfold QB;rw [if_neg (by omega),if_neg (by omega),quiet_succ h.at_.g h.opu (by omega) (by omega) h.at_.b.1.bk.run]
    congr 1;omega
   rw [← e2];exact hR
  ·have:=S.up k (l.length-1) (by omega) (by omega);omega
 ·have hke:k<e:=by omega
  have hsk:s=(evg l k).co:=(h3 k (Nat.le_refl _) hke).symm;have eQ:QB B l k s=qv B l k:=by
   unfold QB qv pv
   by_cases hk0:k=0
   ·rw [if_pos hk0,if_pos hk0]
   ·rw [if_neg hk0,if_neg hk0];have r1:=S.lo (k-1) (by omega);have r2:=S.lo k (by omega);have r3:=h.lo2 (by omega);dsimp only;rw [show w64 ((evg l k).co-(evg l (k-1)).co)=(evg l k).co-(evg l (k-1)).co from Int.emod_eq_of_lt (by omega) (by omega),
     show w64 ((evg l k).co-(evg l (k-1)).co-1)=(evg l k).co-(evg l (k-1)).co-1 from Int.emod_eq_of_lt (by omega) (by omega),hsk]
  have g3:∀ i,k≤i→i<e→(evg l i).co=(evg l k).co:=fun i a b=>by rw [h3 i a b,hsk]
  have g4:e=l.length∨(evg l e).co≠(evg l k).co:=h4.imp id fun q=>by rw [← hsk];exact q
  obtain ⟨T1,_,_,_,hc1⟩:=Rl.evs (by decide) T G h.r h.r.sp hck hsub;obtain ⟨A0,a0,_⟩:=Gr.grp S hf h.at_ hke h2 g3 g4;rw [eQ] at hR T1;have T2:Tie n (auS A ((l.drop k).take (e-k))) ((qv B l k).step ((l.drop k).take (e-k))):=T1.close _ _;have aN:At n ts l e (auS A ((l.drop k).take (e-k))) ((qv B l k).step ((l.drop k).take (e-k))):=⟨⟨T2,hc1,a0.b.2.2.1,a0.b.2.2.2⟩,a0.g,a0.brd⟩;have eL:(evg l (e-1)).co=s:=h3 (e-1) (by omega) (by omega);refine ⟨fun hs=>⟨_,aN,?_,fun q=>by omega,fun _=>by rw [eL];omega,?_,hR.opu,?_⟩,fun hs=>?_⟩
  ·rcases h4 with h4 | h4
   ·subst h4;exact absurd eL.symm hs
   ·by_cases q:e<l.length
    ·exact q
    ·obtain rfl:e=l.length:=by omega
     exact absurd eL.symm hs
  ·have hel:e<l.length:=by
    by_cases q:e<l.length
    ·exact q
    ·obtain rfl:e=l.length:=by omega
     exact absurd eL.symm hs
   have b1:=S.up (e-1) e (by omega) hel
   rcases h4 with h4 | h4
   ·omega
   ·omega
  ·unfold QB;rw [if_neg (by omega),eL,show s+1-s-1=0 by omega,quiet_zero];exact hR
  ·have hel:e=l.length:=by
    rcases h4 with h4 | h4
    ·exact h4
    ·by_cases q:e<l.length
     ·have b1:=S.up (e-1) e (by omega) q;have b2:=S.up e (l.length-1) (by omega) (by omega);omega
     ·omega
   subst hel;have e3:=aN.b.2.2.2;rw [List.drop_length,steps_end] at e3;rw [e3];exact ⟨rfl,hR,aN.g.up (Mk_rng S (Nat.le_refl _)).2,T2⟩
structure EvNow (n:Nat) (A:Au) (R:Rb) (e:Ev):Prop where
 ok:AOk A
 ke:keepsR A e=true
 inn:EvIn n e
 n64:n≤64
 tl:R.tak.length=n
 rl:R.ran.length=n
 tk:∀ i, -1000000≤ig R.tak i∧ig R.tak i≤1000000
 j8:e.k=8∨e.k=9→∃ i,jbI R.jb e.a=some i∧i<R.jb.length
 j13:e.k=13→∃ i,opI R.sc e.a=some i∧i<R.sc.length
 task:∀ j∈R.jb,0≤j.task∧j.task<n
theorem Rl.task (h:Rl lv dl n B R) (hb:BOk n B):∀ j∈R.jb,0≤j.task∧j.task<n:=fun j hj=>by
 rw [h.jb] at hj;obtain ⟨x,hx,rfl⟩:=List.mem_map.1 hj;exact hb.task x hx
theorem Rl.tk_small {M:Int} (h:Rl lv dl n B R) (hN:Num M B) (i:Nat):-M≤ig R.tak i∧ig R.tak i≤M:=by
 have hM:=hN.nn
 by_cases hi:i<B.ts.length
 ·rw [h.tak,ig_map _ hi];exact hN.tak _ (sg_mem hi)
 ·have e:ig R.tak i=0:=by
   unfold ig;rw [List.getD_eq_getElem?_getD,List.getElem?_eq_none (by rw [h.tak,List.length_map];omega)];rfl
  rw [e];omega
theorem RAt.now (S:Span n l) (hf:∀ e∈l,EvFit n e) (hl:l.length≤600) (h:RAt lv dl n ts l s k A B R) {j:Nat} (hj:k+j<l.length):EvNow n (auS A ((l.drop k).take j)) (R.evs A ((l.drop k).take j)) (evg l (k+j)):=by
 obtain ⟨T,G⟩:=h.qgr S;have hsub:∀ x∈(l.drop k).take j,EvFit n x:=fun x hx=>hf x (List.mem_of_mem_drop (List.mem_of_mem_take hx));have e1:(l.drop k).take j++evg l (k+j)::l.drop (k+j+1)=l.drop k:=by
  have:=List.take_append_drop j (l.drop k);rw [List.drop_drop,drop_cons hj] at this;exact this
 obtain ⟨T1,G1,R1,_,c1⟩:=Rl.evs (by decide) T G h.r h.r.sp (r:=evg l (k+j)::l.drop (k+j+1)) (by rw [e1];exact h.at_.b.2.1) hsub;obtain ⟨c2,_⟩:=chk_cons c1;have f:=hf _ (evg_mem hj);have he:=evIn_of (keeps_ok c2) f.2;have hN:Num k (QB B l k s):=by unfold QB;split;exact h.at_.b.2.2.1;exact h.at_.b.2.2.1.quiet _
 have hN1:Num (k+((l.drop k).take j).length) ((QB B l k s).learns ((l.drop k).take j)):=Num.learns (B:=QB B l k s) hN;have hlen:(((l.drop k).take j).length:Int)≤600:=by
  have:((l.drop k).take j).length≤l.length:=by rw [List.length_take,List.length_drop];omega
  omega
 refine ⟨T1.ok,c2,he,T1.n64,by rw [R1.tak,List.length_map];exact T1.bk.len,by rw [R1.ran,List.length_map];exact T1.bk.len,fun i=>?_,fun h8=>?_,fun h13=>?_,R1.task T1.bk⟩
 ·have:=R1.tk_small hN1 i;have hk:=h.lt;omega
 ·have ha:(evg l (k+j)).a<n:=he.a (by omega);have hr:rule { auS A ((l.drop k).take j) with due:=du0 } (evg l (k+j)).k.toNat (evg l (k+j)).a (evg l (k+j)).b (evg l (k+j)).v (decide ((auS A ((l.drop k).take j)).due=duOf (evg l (k+j))))=true:=by unfold keepsR at c2;exact (Bool.and_eq_true_iff.1 c2).2
  have hst:(tkAt (auS A ((l.drop k).take j)) (evg l (k+j)).a).st=1:=by
   rcases h8 with h8 | h8
   ·rw [h8] at hr;exact acts_task (by have:=T1.n64;omega) ((Bool.and_eq_true_iff.1 (show (acts { auS A ((l.drop k).take j) with due:=du0 } (evg l (k+j)).a && decide ((evg l (k+j)).v=(tkAt (auS A ((l.drop k).take j)) (evg l (k+j)).a).job))=true from hr)).1)
   ·rw [h8] at hr;exact acts_task (by have:=T1.n64;omega) ((Bool.and_eq_true_iff.1 (show (acts { auS A ((l.drop k).take j) with due:=du0 } (evg l (k+j)).a && (!isMu (evg l (k+j)).b || decide (owAt (auS A ((l.drop k).take j)) ((evg l (k+j)).b-32)≠0) && decide (owAt (auS A ((l.drop k).take j)) ((evg l (k+j)).b-32)≠((evg l (k+j)).a:Int)+1)))=true from hr)).1)
  have q:=jbI_of R1 G1.op T1.bk.len ha ((T1.t _ ha).opn.2 (by rw [hst];decide));exact ⟨_,q.1,by rw [R1.jb,List.length_map];exact q.2.1⟩
 ·have ha:(evg l (k+j)).a<n:=he.a (by omega);have T2:=T1.learn1 f.1 c2 he;have q:=(T2.t _ ha).owns;have e1:((QB B l k s).learns ((l.drop k).take j)).learn1 (evg l (k+j))=((QB B l k s).learns ((l.drop k).take j)).owner 13 (evg l (k+j)).a (evg l (k+j)).b:=by unfold Bk.learn1;rw [if_neg (by omega),if_neg (by omega),if_neg (by omega),if_neg (by omega),if_neg (by omega),if_neg (by omega),if_pos (.inr h13),h13]
  rw [e1] at q;unfold Bk.owner at q;rw [if_pos rfl] at q;have q2:(sg (((QB B l k s).learns ((l.drop k).take j)).ts.set (evg l (k+j)).a { ((QB B l k s).learns ((l.drop k).take j)).t (evg l (k+j)).a with owns:=(((QB B l k s).learns ((l.drop k).take j)).t (evg l (k+j)).a).owns-1 }) (evg l (k+j)).a).owns=_:=q;rw [sg_set' (by rw [T1.bk.len];exact ha),if_pos rfl] at q2;have q3:(((QB B l k s).learns ((l.drop k).take j)).t (evg l (k+j)).a).owns-1=_:=q2;obtain ⟨i,i1,_⟩:=(R1.sec _ ha).has (by omega);exact ⟨i,i1,(fst_of i1).1⟩
theorem noM_fin (h:Rl lv dl n B R) (T:Tie n A B) {j:Jb} {x:Nat} (hx:x<B.jb.length) (hj:j=jg B.jb x) (last:Int):finR lv dl n R.sc last (noM j)=finJ B.ts last j:=by
 have hm:=h.mis x hx;have htk:=T.bk.task _ (jg_mem hx);rw [← hj] at hm htk;have hp:=h.par j.task.toNat (by omega);have hb:∀ (k:Nat) (v y:Int),k≤n→bndR lv R.sc v k y=bnd B.ts v k y:=fun k=>by
  induction k with
  | zero=>intro v y _;rfl
  | succ k ih =>
   intro v y hk;have e1:bndR lv R.sc v (k+1) y=if v<lv k then w64 (bndR lv R.sc v k y+mostA k 0 R.sc) else bndR lv R.sc v k y:=by
    unfold bndR;rw [List.range_succ,List.foldl_append];rfl
   rw [e1,bnd_next,ih v y (by omega)];have a:=(h.par k (by omega)).1;have b:=(h.sec k (by omega)).most;rw [show (sg B.ts k).lev=lv k from a,b];rfl
 unfold finR finJ;dsimp only;rw [show (noM j).ended=j.ended from rfl,show (noM j).task=j.task from rfl,show (noM j).bound=j.bound from rfl,show (noM j).fin=j.fin from rfl,show (noM j).rel=j.rel from rfl,show (noM j).tidy=j.tidy from rfl];rw [show (sg B.ts j.task.toNat).lev=lv j.task.toNat from hp.1,show (sg B.ts j.task.toNat).dl=dl j.task.toNat from hp.2,T.bk.len,hb n _ _ (Nat.le_refl _)];obtain ⟨task,num,rel,fin,ended,missed,lower,bound,tidy⟩:=j;dsimp only at hm ⊢
 cases ended with
 | true=>simp [noM,hm]
 | false=>simp [noM]
end
structure ReadR (B:Bk) (R:Rb):Prop where
 jb:R.jb=B.jb
 ran : R.ran = B.ts.map (·.ran)
 tak : R.tak = B.ts.map (·.tak)
theorem read_same {lv dl:Nat→Int} {n:Nat} {ts:List Sk} {l:List Ev} {A:Au} {R:Rb} (h:Rl lv dl n ((bk0 ts).steps none l) R) (T:Tie n A ((bk0 ts).steps none l)):ReadR (Bk.read ts l) { R with jb:=R.jb.map (finR lv dl n R.sc (lastCo l)) }:=by
 refine ⟨?_,h.ran,h.tak⟩;unfold Bk.read;dsimp only;generalize (bk0 ts).steps none l=B at *;show R.jb.map _=B.jb.map _;rw [h.jb];refine jb_ext (by simp) fun x hx=>?_;have hx:x<B.jb.length:=by simpa using hx
 rw [jg_map _ (by simpa using hx),jg_map _ hx,jg_map _ hx];exact noM_fin h T hx rfl _
theorem rat_0 {c:Cf} {l:List Ev} (G:GoodE c l) (hl:0<l.length):RAt (fun t=>(sg (tks0 c) t).lev) (fun t=>(sg (tks0 c) t).dl) c.ts.length (tks0 c) l (evg l 0).co 0 au0 (bk0 (tks0 c)) ⟨[],(tks0 c).map (fun _=>0),(tks0 c).map (fun _=>0),[]⟩:=by
 have hz:∀ t,t<c.ts.length→(sg (tks0 c) t).owns=0∧(sg (tks0 c) t).lng=0:=fun t ht=>by
  have hl:t<(tks0 c).length:=by rw [tks0,List.length_map];exact ht
  obtain ⟨q,_,e⟩:=List.mem_map.1 (sg_mem hl);rw [show sg (tks0 c) t=tsk q from e.symm];exact ⟨rfl,rfl⟩
 have e0:∀ f:Sk→Int,(∀ t:Tc,f (tsk t)=0)→(tks0 c).map (fun _=>(0:Int))=(tks0 c).map f:=fun f hf=>by
  unfold tks0;rw [List.map_map,List.map_map];exact List.map_congr_left fun t _=>(hf t).symm
 refine ⟨⟨⟨tie_0 c G.nt,G.ck,num_0 c G.dl,rfl⟩,gr_0 c,.inl rfl⟩,hl,fun _=>rfl,fun q=>absurd q (Nat.lt_irrefl 0),Int.le_refl _,fun x hx=>absurd hx (Nat.not_lt_zero x),?_⟩;refine ⟨rfl,e0 _ fun _=>rfl,e0 _ fun _=>rfl,fun t ht=>?_,fun x hx=>absurd hx (Nat.not_lt_zero x),fun t ht=>⟨rfl,rfl⟩,fun x hx=>absurd hx (Nat.not_lt_zero x)⟩;have q:=hz t ht;refine ⟨fun hp=>?_,fun _=>rfl,fun i j hi=>absurd hi (Nat.not_lt_zero i),q.2.symm⟩;have hp:0<(sg (tks0 c) t).owns:=hp;omega
end Go.Proofs.YtkeommmigopnkaaGreatDoor
