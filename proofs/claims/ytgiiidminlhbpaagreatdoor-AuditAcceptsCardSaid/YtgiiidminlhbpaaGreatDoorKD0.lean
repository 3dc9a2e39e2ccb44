/-
  Parts of the proof: Sep Law Open LawB Auto ReadyP ReadyQ AuditP DeltaP.
-/
import Derived.WalkKit
import Derived.ArgAppend
import Derived.Deep.Draws
import Derived.Laws.IdiomCopy
import Derived.Test.YtgiiidminlhbpaaGreatDoorRows
import Derived.ProofKit
import Derived.OpenShut
import Derived.ShutString
import Derived.ChangeOld
import Derived.Below
import Derived.Deep.Slices
import Derived.Deep.QuietTactic
set_option linter.unusedVariables false
set_option linter.unusedSimpArgs false
set_option maxHeartbeats 32000000
set_option maxRecDepth 100000
namespace Go
theorem zqS {α:Type} {a:α} {l:List α} {i:Nat}:(a::l)[i+1]?=l[i]? := rfl
theorem zqZ {α:Type} {a:α} {l:List α}:(a::l)[0]?=some a := rfl
theorem zqA {α:Type} {l:List α} {i:Nat} {a:α}:l.toArray.setIfInBounds i a=(l.set i a).toArray := List.setIfInBounds_toArray l i a
theorem zqP {α:Type} {a b:α} {l:List α}:(a::l).set 0 b=b::l := rfl
theorem zqQ {α:Type} {a b:α} {l:List α} {i:Nat}:(a::l).set (i+1) b=a::l.set i b := rfl
end Go
namespace Go.Sx
open Go.RowKit
theorem hid {p:Prop} (h:p):Hid p:=h
def Hp:Type:=Nat→Nat→Option Value
def HP:Type:=Hp→Prop
theorem HP.same {P Q:HP} (h:∀ x,P x↔Q x):P=Q:=funext fun x=>propext (h x)
def emp:HP:=fun h=>∀ b o,h b o=none
def zn6 (P Q:HP):HP:=fun h=>∃ h1 h2:Hp,(∀ b o,h1 b o=none∨h2 b o=none)∧(∀ b o,h b o=(h1 b o).or (h2 b o))∧P h1∧Q h2
instance:Mul HP:=⟨zn6⟩
theorem z0W (P Q:HP):P*Q=Q*P:=by
 have key:∀ P Q:HP, ∀ h,zn6 P Q h→zn6 Q P h:=fun P Q h ⟨h1,h2,hd,hu,p,q⟩ =>
  ⟨h2,h1,fun b o=>(hd b o).symm,fun b o=>by rw [hu];rcases hd b o with e | e<;>simp [e],q,p⟩
 exact HP.same fun h=>⟨key P Q h,key Q P h⟩
theorem zb (P Q R:HP):P*Q*R=P*(Q*R):=by
 refine HP.same fun h=>⟨?_,?_⟩
 ·rintro ⟨h12,h3,hd,hu,⟨h1,h2,hd',hu',p,q⟩,r⟩;refine ⟨h1,fun b o=>(h2 b o).or (h3 b o),fun b o=>?_,fun b o=>?_,p,h2,h3,fun b o=>?_,fun _ _=>rfl,q,r⟩
  ·have:=hd b o;have:=hu' b o;have:=hd' b o
   cases e1:h1 b o<;>cases e2:h2 b o<;>cases e3:h3 b o<;>simp_all
  ·rw [hu,hu',Option.or_assoc]
  ·have:=hd b o;have:=hu' b o;have:=hd' b o
   cases e1:h1 b o<;>cases e2:h2 b o<;>cases e3:h3 b o<;>simp_all
 ·rintro ⟨h1,h23,hd,hu,p,h2,h3,hd',hu',q,r⟩;refine ⟨fun b o=>(h1 b o).or (h2 b o),h3,fun b o=>?_,fun b o=>?_,⟨h1,h2,fun b o=>?_,fun _ _=>rfl,p,q⟩,r⟩
  ·have:=hd b o;have:=hu' b o;have:=hd' b o
   cases e1:h1 b o<;>cases e2:h2 b o<;>cases e3:h3 b o<;>simp_all
  ·rw [hu,hu',Option.or_assoc]
  ·have:=hd b o;have:=hu' b o;have:=hd' b o
   cases e1:h1 b o<;>cases e2:h2 b o<;>cases e3:h3 b o<;>simp_all
instance : Std.Associative (α:=HP) (· * ·):=⟨zb⟩
instance : Std.Commutative (α:=HP) (· * ·):=⟨z0W⟩
theorem zm (P:HP):emp*P=P:=by
 refine HP.same fun h=>⟨?_,fun p=>⟨fun _ _=>none,h,fun _ _=>.inl rfl,fun _ _=>rfl,fun _ _=>rfl,p⟩⟩;rintro ⟨h1,h2,_,hu,e,p⟩;have:h=h2:=funext fun b=>funext fun o=>by rw [hu,e];rfl
 rwa [this]
theorem zz (P:HP):P*emp=P:=by rw [z0W,zm]
def pts (b o:Nat) (xs:List Value):HP:=fun h=>∀ b' o',h b' o'=if b'=b∧o≤o' then xs[o'-o]? else none
theorem z3R (b o:Nat):pts b o []=emp:=HP.same fun h=>by simp [pts,emp]
theorem zd (b o:Nat) (xs ys:List Value):pts b o (xs++ys)=pts b o xs*pts b (o+xs.length) ys:=by
 refine HP.same fun h=>⟨fun p=>?_,?_⟩
 ·refine ⟨fun b' o'=>if b'=b∧o≤o' then xs[o'-o]? else none,fun b' o'=>if b'=b∧o+xs.length≤o' then ys[o'-(o+xs.length)]? else none,fun b' o'=>?_,fun b' o'=>?_,fun _ _=>rfl,fun _ _=>rfl⟩
  ·by_cases hb:b'=b
   ·by_cases h1:o+xs.length≤o'
    ·left;simp only [hb,true_and];split
     ·exact List.getElem?_eq_none (by omega)
     ·rfl
    ·right;simp [h1]
   ·left;simp [hb]
  ·rw [p]
   by_cases hb:b'=b
   ·subst hb
    by_cases h0:o≤o'
    ·by_cases h1:o+xs.length≤o'
     ·simp only [true_and,h0,h1,if_true];rw [List.getElem?_append_right (by omega),List.getElem?_eq_none (l:=xs) (by omega),Option.none_or]
      congr 1;omega
     ·simp only [true_and,h0,h1,if_true,if_false];rw [List.getElem?_append_left (by omega),Option.or_none]
    ·simp only [true_and,h0,if_false];rw [if_neg (by omega)];rfl
   ·simp [hb]
 ·rintro ⟨h1,h2,_,hu,p1,p2⟩ b' o';rw [hu,p1,p2]
  by_cases hb:b'=b
  ·subst hb
   by_cases h0:o≤o'
   ·by_cases h1:o+xs.length≤o'
    ·simp only [true_and,h0,h1,if_true];rw [List.getElem?_append_right (by omega),List.getElem?_eq_none (l:=xs) (by omega),Option.none_or]
     congr 1;omega
    ·simp only [true_and,h0,h1,if_true,if_false];rw [List.getElem?_append_left (by omega),Option.or_none]
   ·simp only [true_and,h0,if_false];rw [if_neg (by omega)];rfl
  ·simp [hb]
theorem z2A (b o:Nat) (x:Value) (xs:List Value):pts b o (x::xs)=pts b o [x]*pts b (o+1) xs:=zd b o [x] xs
def ex {α:Type} (f:α→HP):HP:=fun h=>∃ a,f a h
def pur (p:Prop):HP:=fun h=>p∧∀ b o,h b o=none
class Sat (w0:outParam World) (w:World) (P:outParam HP):Prop where
 below:Below w0.heap.size w0 w
 own:∃ h:Hp,P h∧∀ b o v,h b o=some v→w0.heap.size≤b∧w.cell? ⟨b,o,none⟩=some v∧w.frozen? ⟨b,o,none⟩=false
section
variable {w0 w:World} {P Q F:HP} {b o:Nat} {xs:List Value}
theorem Sat.perm (hs:Sat w0 w P) (e:P=Q):Sat w0 w Q:=e ▸ hs
theorem Sat.wk (hs:Sat w0 w (P*F)) (e:∀ h,P h→Q h):Sat w0 w (Q*F) :=
 ⟨hs.below,let ⟨h,⟨h1,h2,hd,hu,p,f⟩,k⟩:=hs.own; ⟨h,⟨h1,h2,hd,hu,e _ p,f⟩,k⟩⟩
theorem Sat.start (w:World):Sat w w emp:=⟨Below.refl _ _,fun _ _=>none,fun _ _=>rfl,fun _ _ _ h=>by cases h⟩
theorem Sat.drop (hs:Sat w0 w (P*F)):Sat w0 w F:=by
 obtain ⟨h,⟨h1,h2,hd,hu,p,f⟩,k⟩:=hs.own;refine ⟨hs.below,h2,f,fun b o v hv=>k b o v ?_⟩;rw [hu]
 rcases hd b o with e | e
 ·rw [e];exact hv
 ·rw [e] at hv;cases hv
theorem Sat.fst (hs:Sat w0 w (P*F)):Sat w0 w P:=(hs.perm (z0W P F)).drop
theorem Sat.emp_in (hs:Sat w0 w F):Sat w0 w (emp*F):=hs.perm (zm F).symm
theorem Sat.size (hs:Sat w0 w P):w0.heap.size≤w.heap.size:=hs.below.size
theorem Sat.old (hs:Sat w0 w P) {a:Addr} (h:a.block<w0.heap.size):w.cell? a=w0.cell? a:=hs.below.cell h
theorem Sat.of_same {w':World} (hs:Sat w0 w P) (hh:w'.heap=w.heap) (ho:w'.os=w.os) (ht:w'.tape=w.tape) (hp:w'.output=w.output):Sat w0 w' P:=by
 obtain ⟨hb,h,p,k⟩:=hs;refine ⟨⟨ho.trans hb.os,ht.trans hb.tape,hp.trans hb.output,by rw [hh];exact hb.size,fun i hi=>by rw [hh];exact hb.block i hi⟩,h,p,fun b o v hv=>?_⟩;have:=k b o v hv;simp only [World.cell?,World.frozen?,hh] at this ⊢;exact this
theorem Sat.drew (hs:Sat w0 w P):Sat w0 w.drew P:=hs.of_same rfl rfl rfl rfl
theorem Sat.drewN (hs:Sat w0 w P) (n:Nat):Sat w0 (w.drewN n) P:=hs.of_same rfl rfl rfl rfl
theorem Sat.cell (hs:Sat w0 w (pts b o xs*F)) {j:Nat} {v:Value} (hj:xs[j]?=some v):w.cell? ⟨b,o+j,none⟩=some v:=by
 obtain ⟨_,h,⟨h1,h2,_,hu,p,_⟩,k⟩:=hs;refine (k b (o+j) v ?_).2.1;rw [hu,p,if_pos ⟨rfl,by omega⟩,show o+j-o=j by omega,hj];rfl
theorem Sat.frz (hs:Sat w0 w (pts b o xs*F)) {j:Nat} (hj:j<xs.length):w.frozen? ⟨b,o+j,none⟩=false:=by
 obtain ⟨_,h,⟨h1,h2,_,hu,p,_⟩,k⟩:=hs;refine (k b (o+j) xs[j] ?_).2.2;rw [hu,p,if_pos ⟨rfl,by omega⟩,show o+j-o=j by omega,List.getElem?_eq_getElem hj];rfl
theorem Sat.above (hs:Sat w0 w (pts b o xs*F)) (h0:0<xs.length):w0.heap.size≤b∧b<w.heap.size:=by
 have hc:=hs.cell (j:=0) (List.getElem?_eq_getElem h0);obtain ⟨_,h,⟨h1,h2,_,hu,p,_⟩,k⟩:=hs;refine ⟨(k b (o+0) xs[0] ?_).1,World.block_lt_of_cell? w _ hc⟩;rw [hu,p,if_pos ⟨rfl,by omega⟩,show o+0-o=0 by omega,List.getElem?_eq_getElem h0];rfl
theorem Sat.c0 {v:Value} (hs:Sat w0 w (pts b o (v::xs)*F)):w.cell? ⟨b,o,none⟩=some v:=hs.cell (j:=0) rfl
theorem Sat.f0 {v:Value} (hs:Sat w0 w (pts b o (v::xs)*F)):w.frozen? ⟨b,o,none⟩=false:=hs.frz (j:=0) (by simp)
theorem Sat.apart {ys:List Value} {b' o':Nat} (hs:Sat w0 w (pts b o xs*(pts b' o' ys*F))) {j j':Nat} (hj:j<xs.length) (hj':j'<ys.length):(⟨b,o+j,none⟩:Addr)≠⟨b',o'+j',none⟩:=by
 obtain ⟨_,h,⟨h1,h2,hd,hu,p,⟨h3,h4,hd',hu',q,_⟩⟩,k⟩:=hs;intro e;simp only [Addr.mk.injEq] at e;obtain ⟨rfl,e,_⟩:=e;have e1:h1 b (o+j)=some xs[j]:=by rw [p,if_pos ⟨rfl,by omega⟩,show o+j-o=j by omega,List.getElem?_eq_getElem hj]
 have e2:h2 b (o+j)=some ys[j']:=by rw [hu',q,if_pos ⟨rfl,by omega⟩,e,show o'+j'-o'=j' by omega,List.getElem?_eq_getElem hj'];rfl
 rcases hd b (o+j) with e3 | e3
 ·rw [e1] at e3;cases e3
 ·rw [e2] at e3;cases e3
theorem Sat.set (hs:Sat w0 w (pts b o xs*F)) {j:Nat} (hj:j<xs.length) (v:Value):Sat w0 (w.setCell ⟨b, o+j, none⟩ v) (pts b o (xs.set j v)*F) := by
  have hc := hs.cell (j := j) (List.getElem?_eq_getElem hj);have hab := hs.above (by omega);obtain ⟨hb, h, ⟨h1, h2, hd, hu, p, f⟩, k⟩ := hs;have e1:h1 b (o+j)=some xs[j] := by rw [p, if_pos ⟨rfl, by omega⟩, show o+j-o=j by omega, List.getElem?_eq_getElem hj]
  have e2 : h2 b (o + j) = none := by rcases hd b (o + j) with e | e; · rw [e1] at e; cases e
                                      · exact e
  refine ⟨hb.setCell (by simpa using hab.1) _, fun b' o' => if b'=b∧o'=o+j then some v else h b' o',
    ⟨fun b' o' => if b'=b∧o'=o+j then some v else h1 b' o', h2, fun b' o' => ?_, fun b' o' => ?_, fun b' o' => ?_, f⟩, fun b' o' u hv => ?_⟩
  · by_cases e:b'=b∧o'=o+j
    · obtain ⟨rfl, rfl⟩ := e; exact .inr e2
    · simp only [e, if_false]; exact hd b' o'
  · by_cases e:b'=b∧o'=o+j
    · simp [e]
    · simp only [e, if_false]; exact hu b' o'
  · by_cases e:b'=b∧o'=o+j
    · obtain ⟨rfl, rfl⟩ := e
      simp only [and_self, if_true];rw [if_pos ⟨trivial, by omega⟩, show o+j-o=j by omega, List.getElem?_set_self hj]
    · simp only [e, if_false]
      rw [p]
      by_cases hh:b'=b∧o≤o'
      · rw [if_pos hh, if_pos hh, List.getElem?_set_ne (by omega)]
      · rw [if_neg hh, if_neg hh]
  · by_cases e:b'=b∧o'=o+j
    · obtain ⟨rfl, rfl⟩ := e
      simp only [and_self, if_true, Option.some.injEq] at hv;subst hv;refine ⟨hab.1, World.cell?_setCell_same _ _ _ hc, ?_⟩;rw [World.frozen?_setCell];exact (k b' (o+j) xs[j] (by rw [hu, e1]; rfl)).2.2
    · simp only [e, if_false] at hv
      obtain ⟨k1, k2, k3⟩ := k b' o' u hv;refine ⟨k1, ?_, by rw [World.frozen?_setCell]; exact k3⟩;rw [World.cell?_setCell_other _ _ _ _ (by intro h; simp only [Addr.mk.injEq] at h; exact e ⟨h.1.symm, h.2.1.symm⟩)];exact k2
theorem Sat.set0 {u:Value} (hs:Sat w0 w (pts b o (u::xs)*F)) (v:Value):Sat w0 (w.setCell ⟨b,o,none⟩ v) (pts b o (v::xs)*F):=hs.set (j:=0) (by simp) v
theorem Sat.alloc (hs:Sat w0 w F) (c:Array Value) (t:TypeId):Sat w0 (w.alloc (.cells c t)) (pts w.heap.size 0 c.toList*F):=by
 obtain ⟨hb,h,p,k⟩:=hs;have old:∀ b o,w.heap.size≤b→h b o=none:=fun b o hbs=>by
  cases e:h b o with
  | none=>rfl
  | some v=>have:=World.block_lt_of_cell? w _ (k b o v e).2.1;simp at this;omega
 refine ⟨hb.alloc hb.size _,fun b' o'=>if b'=w.heap.size then c[o']? else h b' o',⟨fun b' o'=>if b'=w.heap.size then c[o']? else none,h,fun b' o'=>?_,fun b' o'=>?_,fun b' o'=>?_,p⟩,fun b' o' v hv=>?_⟩
 ·by_cases e:b'=w.heap.size
  ·right;exact old b' o' (by omega)
  ·left;simp [e]
 ·by_cases e:b'=w.heap.size
  ·simp only [e,if_true];rw [old _ _ (Nat.le_refl _),Option.or_none]
  ·simp [e]
 ·by_cases e:b'=w.heap.size
  ·simp [e]
  ·simp [e]
 ·by_cases e:b'=w.heap.size
  ·subst e;simp only [if_true] at hv;refine ⟨hb.size,?_,World.frozen?_alloc_new w c t o'⟩;rw [World.cell?_alloc_new];exact hv
  ·simp only [e,if_false] at hv;obtain ⟨k1,k2,k3⟩:=k b' o' v hv;exact ⟨k1,by rw [World.cell?_alloc_old _ _ _ e];exact k2,by rw [World.frozen?_alloc_old _ _ _ e];exact k3⟩
theorem Sat.setCells:∀ (vs:List Value) (w:World) (xs ys:List Value) (_:Sat w0 w (pts b o (xs++ys)*F)) (_:vs.length≤ys.length),
  Sat w0 (w.setCells b (o+xs.length) vs) (pts b o (xs++vs++ys.drop vs.length)*F)
 | [],w,xs,ys,hs,_=>by simpa [World.setCells] using hs
 | v::vs,w,xs,y::ys,hs,hl=>by
  have h1:=hs.set (j:=xs.length) (by simp) v;have h2:=Sat.setCells vs _ (xs++[v]) ys (h1.perm (by simp)) (by simpa using hl)
  simpa [World.setCells,Nat.add_assoc] using h2
theorem Sat.ex_out {α:Type} {f:α→HP} (hs:Sat w0 w (ex f*F)):∃ a,Sat w0 w (f a*F):=by
 obtain ⟨hb,h,⟨h1,h2,hd,hu,⟨a,p⟩,q⟩,k⟩:=hs;exact ⟨a,hb,h,⟨h1,h2,hd,hu,p,q⟩,k⟩
theorem Sat.ex_in {α:Type} {f:α→HP} (a:α) (hs:Sat w0 w (f a*F)):Sat w0 w (ex f*F):=hs.wk fun _ p=>⟨a,p⟩
theorem Sat.pur_out {p:Prop} (hs:Sat w0 w (pur p*F)):p∧Sat w0 w F:=by
 have:=hs.drop;obtain ⟨_,_,⟨_,_,_,_,⟨hp,_⟩,_⟩,_⟩:=hs;exact ⟨hp,this⟩
theorem Sat.pur_in {p:Prop} (hp:p) (hs:Sat w0 w F):Sat w0 w (pur p*F):=hs.emp_in.wk fun _ e=>⟨hp,e⟩
end
def zX (k:Nat) (v:Value) (n:Nat) (xs:List Value):HP:=fun h =>
 (v=.slice none 0 0∧n=0∧xs=[]∧∀ b o,h b o=none) ∨
 ∃ g off cap sp,v=.slice (some ⟨g,off,none⟩) n cap∧n≤cap∧cap≤maxLen∧xs.length=n*k∧sp.length=(cap-n)*k∧pts g off (xs++sp) h
section
variable {w0 w:World} {P Q F:HP} {k:Nat} {v:Value} {n:Nat} {xs:List Value}
theorem Sat.slice_out (hs:Sat w0 w (zX k v n xs*F)):(v=.slice none 0 0∧n=0∧xs=[]∧Sat w0 w F) ∨
  ∃ g off cap sp,v=.slice (some ⟨g,off,none⟩) n cap∧n≤cap∧cap≤maxLen∧xs.length=n*k∧sp.length=(cap-n)*k∧Sat w0 w (pts g off (xs++sp)*F):=by
 have hd:=hs.drop;obtain ⟨hb,h,⟨h1,h2,hd',hu,p,f⟩,kk⟩:=hs
 rcases p with ⟨e1,e2,e3,_⟩ | ⟨g,off,cap,sp,e1,e2,e3,e4,e5,p⟩
 ·exact .inl ⟨e1,e2,e3,hd⟩
 ·exact .inr ⟨g,off,cap,sp,e1,e2,e3,e4,e5,hb,h,⟨h1,h2,hd',hu,p,f⟩,kk⟩
theorem Sat.slice_form (hs:Sat w0 w (zX k v n xs*F)):∃ a cap,v=.slice a n cap:=by
 rcases hs.slice_out with ⟨rfl,rfl,_,_⟩ | ⟨g,off,cap,sp,rfl,_⟩
 ·exact ⟨none,0,rfl⟩
 ·exact ⟨_,cap,rfl⟩
theorem Sat.slice_nil (k:Nat) (hs:Sat w0 w F):Sat w0 w (zX k (.slice none 0 0) 0 []*F):=hs.emp_in.wk fun _ e=>.inl ⟨rfl,rfl,rfl,e⟩
theorem Sat.slice_in {g off cap:Nat} {sp:List Value} (hs:Sat w0 w (pts g off (xs++sp)*F)) (h1:n≤cap) (h2:cap≤maxLen) (h3:xs.length=n*k) (h4:sp.length=(cap-n)*k) :
  Sat w0 w (zX k (.slice (some ⟨g,off,none⟩) n cap) n xs*F):=hs.wk fun _ p=>.inr ⟨g,off,cap,sp,rfl,h1,h2,h3,h4,p⟩
theorem z3g (b:Nat):∀ (vs:List Value) (o:Nat) (w:World),(w.setCells b o vs).heap.size=w.heap.size
 | [],_,_=>rfl
 | v::r,o,w=>by rw [World.setCells,z3g b r];simp
theorem zdv {P:Program} (t ty e:TypeId) (i:TypeInfo) (z:Value) (size bytes:Nat) (ht:P.underlying t=some (.slice e)) (hi:P.info? e=some i) (hz:i.zero=some z)
    (hsize:i.size=size) (hby:i.bytes=bytes) (hzs:z.cells.size=size) (hs:Sat w0 w (zX size v n xs*F))
    (ad:Option Addr) (m c:Nat) (news:List Value) (hl:news.length=m*size) (had:ad=none→m=0) (hnews:∀ a, ad=some a→∀ j u, news[j]?=some u→w.cell? (a.add j)=some u) (h1:∀ u∈news, u.oneCell'=true)
    (h63:n+m≤maxLen) (hbytes:(n+m)*bytes≤140737488355328) :
    ∃ v' w', (Builtin.append_ #[t, t] ty #[v, .slice ad m c]).run P w=.ok v' w'∧Sat w0 w' (zX size v' (n+m) (xs++news)*F)∧w.heap.size≤w'.heap.size := by
  subst hsize;subst hby
  have hsmall:n+m≤9223372036854775807 := by simp only [maxLen] at h63; omega
  by_cases hm:m=0
  · subst hm
    have hn0:news=[] := List.eq_nil_of_length_eq_zero (by simpa using hl);subst hn0;refine ⟨v, w, ?_, by simpa using hs, Nat.le_refl _⟩
    rcases hs.slice_out with ⟨rfl, rfl, rfl, _⟩ | ⟨g, off, cap, sp, rfl, hc, _, hx, hsp, hs'⟩
    · cases ad<;>simp [Builtin.append_, run_underlying ht, sizeOf, typeInfo, hi, Builtin.lenOf, Builtin.firstCells, loadCells, loadCellsFrom]
    · cases ad<;>simp [Builtin.append_, run_underlying ht, sizeOf, typeInfo, hi, Builtin.lenOf, Builtin.firstCells, loadCells, loadCellsFrom, hc, storeCells]
  obtain ⟨a, rfl⟩:∃ a, ad=some a := by cases ad with | none => exact absurd (had rfl) hm | some a => exact ⟨a, rfl⟩
  have hnews' := hnews a rfl
  rcases hs.slice_out with ⟨rfl, rfl, rfl, hs'⟩ | ⟨g, off, cap, sp, rfl, hc, hcm, hx, hsp, hs'⟩
  · have hr := run_append_nil (P := P) w t ty e i z ht hi hz a m c news hl hnews' (by omega) (by omega) (by have hb := hbytes; simp only [Nat.zero_add] at hb; omega)
    refine ⟨_, _, hr, ?_, by simp⟩;have hge := grownCap_ge w m 0 e;have hcm:grownCap w m 0 e≤maxLen := grownCap_le_maxLen w m 0 e (by omega);have h2 := hs'.drew.alloc (news.toArray++Builtin.zeroCells z.cells (grownCap w m 0 e-m)) e;have h3 := Sat.slice_in (w0 := w0) (g := w.heap.size) (off := 0) (F := F) (k := i.size) (n := m) (xs := news) (cap := grownCap w m 0 e) (sp := (Builtin.zeroCells z.cells (grownCap w m 0 e-m)).toList) (h2.perm (by simp)) hge hcm hl (by simp [size_zeroCells, hzs])
    simpa using h3
  · by_cases hroom:n+m≤cap
    · have hspl:m*i.size≤sp.length := by rw [hsp]; exact Nat.mul_le_mul_right _ (by omega)
      have hr := run_append_room_cells (P := P) w t ty e i ht hi g off n cap a m c news hl hnews' h1 hroom
        (fun j hj => by
          have := hs'.cell (j := n*i.size+j) (v := (xs++sp)[n*i.size+j]'(by simp; omega)) (List.getElem?_eq_getElem _);rw [← Nat.add_assoc] at this; rw [this]; rfl)
        (fun j hj => by
          have := hs'.frz (j := n*i.size+j) (by simp; omega)
          rwa [← Nat.add_assoc] at this)
      refine ⟨_, _, hr, ?_, by rw [z3g]; exact Nat.le_refl _⟩;have h2 := Sat.setCells news w xs sp hs' (by omega);rw [hx] at h2;exact Sat.slice_in h2 hroom hcm (by simp [hx, hl, Nat.add_mul]) (by simp [hsp, hl, ← Nat.sub_mul]; congr 1; omega)
    · have hr := run_append_grow (P := P) w t ty e i z ht hi hz ⟨g, off, none⟩ n cap xs hx (fun j u hj => by
          rw [Addr.add_lit];exact hs'.cell (by rw [List.getElem?_append_left (List.getElem?_eq_some_iff.1 hj).1]; exact hj)) a m c news hl hnews' (by omega) (by omega) (growslice_fits (by omega) hbytes)
      refine ⟨_, _, hr, ?_, by simp⟩;have hge := grownCap_ge w (n+m) cap e;have hcm:grownCap w (n+m) cap e≤maxLen := grownCap_le_maxLen w (n+m) cap e h63;have h2 := hs'.drop.drew.alloc (xs.toArray++news.toArray++Builtin.zeroCells z.cells (grownCap w (n+m) cap e-(n+m))) e;have h3 := Sat.slice_in (w0 := w0) (g := w.heap.size) (off := 0) (F := F) (k := i.size) (n := n+m) (xs := xs++news) (cap := grownCap w (n+m) cap e) (sp := (Builtin.zeroCells z.cells (grownCap w (n+m) cap e-(n+m))).toList) (h2.perm (by simp)) hge hcm (by simp [hx, hl, Nat.add_mul]) (by simp [size_zeroCells, hzs])
      simpa using h3
end
structure z1m (P:Program) (t e size bytes:Nat) (z:Value):Prop where
 ht:P.underlying t=some (.slice e)
 hi:(P.info? e).map (fun i=>(i.zero,i.size,i.bytes))=some (some z,size,bytes)
 hz:z.cells.size=size
section
variable {P:Program} {w0 w:World} {F:HP} {v:Value} {n:Nat} {xs:List Value} {t e size bytes:Nat} {z:Value}
theorem zdu (E:z1m P t e size bytes z) (ty:TypeId) (hs:Sat w0 w (zX size v n xs*F))
  (ad:Option Addr) (m c:Nat) (news:List Value) (hl:news.length=m*size) (had:ad=none→m=0) (hnews:∀ a,ad=some a→∀ j u,news[j]?=some u→w.cell? (a.add j)=some u) (h1:∀ u∈news,u.oneCell'=true)
  (h63:n+m≤maxLen) (hbytes:(n+m)*bytes≤140737488355328) :
  ∃ v' w',(Builtin.append_ #[t,t] ty #[v,.slice ad m c]).run P w=.ok v' w'∧Sat w0 w' (zX size v' (n+m) (xs++news)*F)∧w.heap.size≤w'.heap.size:=by
 obtain ⟨i,hi,h2,h3,h4⟩:=info_parts E.hi;exact zdv t ty e i z size bytes E.ht hi h2 h3 h4 E.hz hs ad m c news hl had hnews h1 h63 hbytes
theorem z0E {o:Oper} {a:Act} {K:Act→World→Prop} {Q:Exit→Act→World→Prop} (s x:Operand)
  (ho:o.op=.call { callee:=.builtin .append,args:=#[s,x],argTypes:=#[t,t] }) (E:z1m P t e size bytes z)
  (hv:a.eval s=v) (hs:Sat w0 w (zX size v n xs*F))
  (ad:Option Addr) (m c:Nat) (news:List Value) (hx:a.eval x=.slice ad m c) (hl:news.length=m*size) (had:ad=none→m=0) (hnews:∀ a,ad=some a→∀ j u,news[j]?=some u→w.cell? (a.add j)=some u) (h1:∀ u∈news,u.oneCell'=true)
  (h63:n+m≤maxLen) (hbytes:(n+m)*bytes≤140737488355328)
  (h:∀ v' w',Sat w0 w' (zX size v' (n+m) (xs++news)*F)→w.heap.size≤w'.heap.size→K (a.put o.dst v') w'):o.wp P a w K Q:=by
 obtain ⟨v',w',hr,h2,h3⟩:=zdu E o.type hs ad m c news hl had hnews h1 h63 hbytes;unfold Oper.wp execOp;simp only [ho,resolve,invoke,builtin,Sem.run_bind,Sem.run_pure,Result.andThen_ok,List.map_toArray,List.map_cons,List.map_nil,hv,hx,hr];exact h v' w' h2 h3
theorem z00 {ops:Array Oper} {rest:List Oper} {o:Oper} {a:Act} {Q:Exit→Act→World→Prop} (hgd:o.guard=none) (s x:Operand)
  (ho:o.op=.call { callee:=.builtin .append,args:=#[s,x],argTypes:=#[t,t] }) (E:z1m P t e size bytes z)
  (hv:a.eval s=v) (hs:Sat w0 w (zX size v n xs*F))
  (ad:Option Addr) (m c:Nat) (news:List Value) (hx:a.eval x=.slice ad m c) (hl:news.length=m*size) (had:ad=none→m=0) (hnews:∀ a,ad=some a→∀ j u,news[j]?=some u→w.cell? (a.add j)=some u) (h1:∀ u∈news,u.oneCell'=true)
  (h63:n+m≤maxLen) (hbytes:(n+m)*bytes≤140737488355328)
  (h:∀ v' w',Sat w0 w' (zX size v' (n+m) (xs++news)*F)→w.heap.size≤w'.heap.size→wpList P ops Q rest (a.put o.dst v') w'):wpList P ops Q (o::rest) a w :=
 wpList_plain hgd fun _ hK=>z0E s x ho E hv hs ad m c news hx hl had hnews h1 h63 hbytes fun v' w' h2 h3=>hK _ _ (h v' w' h2 h3)
theorem z3n {o:Oper} {a:Act} {K:Act→World→Prop} {Q:Exit→Act→World→Prop} (s x:Operand)
  (ho:o.op=.call { callee:=.builtin .append,args:=#[s,x],argTypes:=#[t,t] }) (E:z1m P t e size bytes z)
  (hv:a.eval s=v) (hs:Sat w0 w (zX size v n xs*F)) {cs:Array Value} {ct:TypeId} {m c:Nat}
  (hx:a.eval x=.slice (some ⟨w.heap.size,0,none⟩) m c) (hl:cs.size=m*size) (h1:∀ u∈cs.toList,u.oneCell'=true)
  (h63:n+m≤maxLen) (hbytes:(n+m)*bytes≤140737488355328)
  (h:∀ v' w',Sat w0 w' (zX size v' (n+m) (xs++cs.toList)*F)→w.heap.size<w'.heap.size→K (a.put o.dst v') w'):o.wp P a (w.alloc (.cells cs ct)) K Q:=by
 have hs1:=hs.alloc cs ct;have hs2:Sat w0 (w.alloc (.cells cs ct)) (zX size v n xs*(pts w.heap.size 0 cs.toList*F)):=hs1.perm (by ac_rfl);refine z0E s x ho E hv hs2 _ m c cs.toList hx (by simpa using hl) (fun h=>by cases h) (fun ad hd j u hj=>?_) h1 h63 hbytes fun v' w' h2 h3=>h v' w' ?_ ?_
 ·cases hd
  rw [Addr.add_lit];exact hs1.cell hj
 ·exact (h2.perm (by ac_rfl:_=pts w.heap.size 0 cs.toList*(zX size v' (n+m) (xs++cs.toList)*F))).drop
 ·simp at h3;omega
theorem z1F {ops:Array Oper} {rest:List Oper} {o:Oper} {a:Act} {Q:Exit→Act→World→Prop} (hgd:o.guard=none) (s x:Operand)
  (ho:o.op=.call { callee:=.builtin .append,args:=#[s,x],argTypes:=#[t,t] }) (E:z1m P t e size bytes z)
  (hv:a.eval s=v) (hs:Sat w0 w (zX size v n xs*F)) {cs:Array Value} {ct:TypeId} {m c:Nat}
  (hx:a.eval x=.slice (some ⟨w.heap.size,0,none⟩) m c) (hl:cs.size=m*size) (h1:∀ u∈cs.toList,u.oneCell'=true)
  (h63:n+m≤maxLen) (hbytes:(n+m)*bytes≤140737488355328)
  (h:∀ v' w',Sat w0 w' (zX size v' (n+m) (xs++cs.toList)*F)→w.heap.size<w'.heap.size→wpList P ops Q rest (a.put o.dst v') w'):wpList P ops Q (o::rest) a (w.alloc (.cells cs ct)) :=
 wpList_plain hgd fun _ hK=>z3n s x ho E hv hs hx hl h1 h63 hbytes fun v' w' h2 h3=>hK _ _ (h v' w' h2 h3)
end
theorem z0M {P:Program} {w:World} {ops:Array Oper} {rest:List Oper} {o:Oper} {a:Act} {Q:Exit→Act→World→Prop} (hg:o.guard=none) (s x:Operand) {t e size bytes:Nat} {z:Value}
  (hop:o.op=Op.call { callee:=Callee.builtin Builtin.append,args:=#[s,x],argTypes:=#[t,t] }) (E:z1m P t e size bytes z)
  (b off n cap:Nat) (hs:a.eval s=.slice (some ⟨b,off,none⟩) n cap)
  (ad:Addr) (m c:Nat) (news:List Value) (hx:a.eval x=.slice (some ad) m c) (hn:news.length=m*size) (hc:∀ j u,news[j]?=some u→w.cell? (ad.add j)=some u) (h1c:∀ u∈news,u.oneCell'=true)
  (hroom:n+m≤cap) (hspare:∀ j,j<news.length→(w.cell? ⟨b,off+n*size+j,none⟩).isSome=true∧w.frozen? ⟨b,off+n*size+j,none⟩=false)
  (hK:wpList P ops Q rest (a.put o.dst (.slice (some ⟨b,off,none⟩) (n+m) cap)) (w.setCells b (off+n*size) news)):wpList P ops Q (o::rest) a w:=by
 refine wpList_plain hg fun K hK'=>?_;obtain ⟨i,hi,_,h4,_⟩:=info_parts E.hi;subst h4;have hrun:=run_append_room_cells (P:=P) w t o.type e i E.ht hi b off n cap ad m c news hn hc h1c hroom (fun j hj=>(hspare j hj).1) (fun j hj=>(hspare j hj).2);unfold Oper.wp;simp [execOp,hop,resolve,invoke,builtin,hs,hx,hrun,Result.andThen];exact hK' _ _ hK
theorem z7H {P:Program} (w:World) (t e:TypeId) (ty:TypeId) (i:TypeInfo) (z:Value) (ht:P.underlying t=some (.slice e)) (hi:P.info? e=some i) (hz:i.zero=some z)
  (b off n cap:Nat) (hn:0<n) (hc:∀ j,j<n*z.cells.size→(w.cell? ⟨b,off+j,none⟩).isSome=true) (hf:∀ j,j<n*z.cells.size→w.frozen? ⟨b,off+j,none⟩=false) (h1:∀ u∈(Builtin.zeroCells z.cells n).toList,u.oneCell'=true) :
  (Builtin.clear_ #[t] ty #[.slice (some ⟨b,off,none⟩) n cap]).run P w=.ok (.tuple #[]) (w.setCells b off (Builtin.zeroCells z.cells n).toList):=by
 have hsz:(Builtin.zeroCells z.cells n).toList.length=n*z.cells.size:=by simp [size_zeroCells]
 have hst:=run_storeCells_cells (P:=P) b off (Builtin.zeroCells z.cells n).toList 0 w (by rw [hsz];simpa using hc) (by rw [hsz];simpa using hf) h1;simp only [Nat.add_zero] at hst;obtain ⟨m,rfl⟩:∃ m,n=m+1:=⟨n-1,by omega⟩;simp [Builtin.clear_,run_underlying ht,zeroValue,typeInfo,hi,hz,hst]
theorem z2D {P:Program} {w0 w:World} {F:HP} {t e size bytes:Nat} {z:Value} {ops:Array Oper} {rest:List Oper} {o:Oper} {a:Act} {Q:Exit→Act→World→Prop} (hgd:o.guard=none) (x:Operand)
  (ho:o.op=.call { callee:=.builtin .clear,args:=#[x],argTypes:=#[t] }) (E:z1m P t e size bytes z)
  {b off n cap:Nat} (hx:a.eval x=.slice (some ⟨b,off,none⟩) n cap) (hn:0<n) {ys:List Value} (hs:Sat w0 w (pts b off ys*F)) (hl:ys.length=n*size) (h1:∀ u∈(Builtin.zeroCells z.cells n).toList,u.oneCell'=true)
  (h:∀ w',Sat w0 w' (pts b off (Builtin.zeroCells z.cells n).toList*F)→wpList P ops Q rest (a.put o.dst (.tuple #[])) w'):wpList P ops Q (o::rest) a w:=by
 refine wpList_plain hgd fun K hK=>?_;obtain ⟨i,hi,h2,_,_⟩:=info_parts E.hi;have hz:=E.hz;have hr:=z7H (P:=P) w t e o.type i z E.ht hi h2 b off n cap hn
  (fun j hj=>by rw [hz,← hl] at hj;rw [hs.cell (j:=j) (List.getElem?_eq_getElem hj)];rfl)
  (fun j hj=>by rw [hz,← hl] at hj;exact hs.frz hj) h1
 unfold Oper.wp execOp;simp only [ho,resolve,invoke,builtin,Sem.run_bind,Sem.run_pure,Result.andThen_ok,List.map_toArray,List.map_cons,List.map_nil,hx,hr];refine hK _ _ (h _ ?_);have h3:=Sat.setCells (b:=b) (o:=off) (F:=F) (Builtin.zeroCells z.cells n).toList w [] ys (hs.perm (by simp)) (by simp [size_zeroCells,hz,hl]);have h4:ys.drop (Builtin.zeroCells z.cells n).toList.length=[]:=List.drop_eq_nil_of_le (by simp [size_zeroCells,hz,hl]);rw [h4] at h3
 simpa using h3
def RdN (κ:IntKind) (w:World) (v:Value) (l:List Int):Prop :=
 ∃ a cap b off,v=.slice a l.length cap∧l.length≤cap∧cap≤maxLen∧(l≠[]→a=some ⟨b,off,none⟩)∧∀ j,j<l.length→w.cell? ⟨b,off+j,none⟩=some (.int κ (l.getD j 0))
def z5 (κ:IntKind) (v:Value) (l:List Int):HP:=zX 1 v l.length (l.map (Value.int κ))
section
variable {w0 w:World} {F:HP} {κ:IntKind} {v:Value} {l:List Int}
theorem Sat.keep {P:HP} {a:Addr} {u:Value} (hs:Sat w0 w P) (h:w0.cell? a=some u):w.cell? a=some u:=by
 rw [hs.old (World.block_lt_of_cell? w0 _ h)];exact h
theorem RdN.drewN (h:RdN κ w v l) (n:Nat):RdN κ (w.drewN n) v l:=h
theorem RdN.later {P:HP} (h:RdN κ w0 v l) (hs:Sat w0 w P):RdN κ w v l:=by
 obtain ⟨a,cap,b,off,h1,h2,h3,h4,h5⟩:=h;refine ⟨a,cap,b,off,h1,h2,h3,h4,fun j hj=>?_⟩;have hc:=h5 j hj;rw [hs.old (World.block_lt_of_cell? w0 _ hc)];exact hc
theorem Sat.rdN (hs:Sat w0 w (z5 κ v l*F)):RdN κ w v l:=by
 rcases hs.slice_out with ⟨rfl,h0,h1,_⟩ | ⟨g,off,cap,sp,rfl,hc,hcm,hx,hsp,hs'⟩
 ·have:l=[]:=List.eq_nil_of_length_eq_zero h0;subst this;exact ⟨none,0,0,0,rfl,Nat.le_refl _,Nat.zero_le _,fun h=>absurd rfl h,fun j hj=>absurd hj (Nat.not_lt_zero _)⟩
 ·refine ⟨_,cap,g,off,rfl,hc,hcm,fun _=>rfl,fun j hj=>hs'.cell ?_⟩;rw [List.getElem?_append_left (by simpa using hj)];simp [List.getD,hj]
def z6E (w0:World) (F:HP) (κ:IntKind) (v:Value) (l:List Int):Prop:=∀ w,Sat w0 w F→RdN κ w v l
theorem z6E.rd {G:HP} (h:z6E w0 F κ v l) (hs:Sat w0 w (G*F)):RdN κ w v l:=h _ hs.drop
theorem RdN.len (h:RdN κ w v l):l.length≤maxLen:=by
 obtain ⟨a,cap,b,off,h1,h2,h3,h4,h5⟩:=h;omega
end
def Ret (w0:World) (Q:Value→HP) (e:Ending) (w':World):Prop:=∃ v,e=.returned v∧Sat w0 w' (Q v)
def zp (w0:World) (v:Value) (Q:HP) (e:Ending) (w':World):Prop:=e=.returned v∧Sat w0 w' Q
theorem Sat.empty_slice {w0 w:World} {F:HP} (k:Nat) (hs:Sat w0 w F) (t:TypeId):Sat w0 (w.alloc (.cells #[] t)) (zX k (.slice (some ⟨w.heap.size,0,none⟩) 0 0) 0 []*F) :=
 Sat.slice_in (sp:=[]) (hs.alloc #[] t) (Nat.le_refl _) (Nat.zero_le _) (by simp) (by simp)
theorem z1i {w:World} {a:Addr} {v:Value} (h:w.cell? a=some v) (o:Obj):(w.alloc o).cell? a=some v:=by
 rw [World.cell?_alloc_lt _ _ _ (World.block_lt_of_cell? w _ h)];exact h
theorem zkU (κ:IntKind) (l:List Int) (w:World) (t:TypeId) (h:l.length≤maxLen):RdN κ (w.alloc (.cells (l.map (Value.int κ)).toArray t)) (.slice (some ⟨w.heap.size,0,none⟩) l.length l.length) l :=
 ⟨_,l.length,w.heap.size,0,rfl,Nat.le_refl _,h,fun _=>rfl,fun j hj=>by
  rw [Nat.zero_add,World.cell?_alloc_new];simp [List.getD,hj]⟩
theorem z1R {κ:IntKind} (l:List Int):∀ u∈l.map (Value.int κ),u.oneCell'=true:=by
 intro u hu;obtain ⟨x,_,rfl⟩:=List.mem_map.1 hu
 rfl
theorem RdN.news {κ:IntKind} {w:World} {a:Option Addr} {n cap:Nat} {l:List Int} (h:RdN κ w (.slice a n cap) l) :
  n=l.length∧(a=none→n=0)∧∀ ad,a=some ad→∀ j u,(l.map (Value.int κ))[j]?=some u→w.cell? (ad.add j)=some u:=by
 obtain ⟨a',cap',b,off,h1,h2,h3,h4,h5⟩:=h;simp only [Value.slice.injEq] at h1;obtain ⟨rfl,rfl,rfl⟩:=h1;have hne:0<l.length→l≠[]:=fun h e=>by simp [e] at h
 refine ⟨rfl,fun hn=>?_,fun ad had j u hu=>?_⟩
 ·rcases Nat.eq_zero_or_pos l.length with h | h
  ·exact h
  ·have:=h4 (hne h);rw [hn] at this;cases this
 ·have hj:j<l.length:=by simpa using (List.getElem?_eq_some_iff.1 hu).1
  have e:=h4 (hne (by omega));rw [had] at e
  cases e
  rw [Addr.add_lit,h5 j hj]
  simpa [List.getD,hj] using hu
end Go.Sx
namespace Go.Proofs.YtgiiidminlhbpaaGreatDoor
open Go.RowKit Go.Sx Go.ChangeShapes Go.WideShapes Go.ChangeAt
open Go.ChangeMaps (open_string shut_string)
theorem zsF:ownKnob Tryz.prog.godebug=none:=by kernel_rfl
theorem z7f:laidOutB Tryz.prog=true:=by kernel_rfl
theorem z6F {w:World} {a:Addr} {u:Value} (h:w.cell? (a.add 0)=some u):∃ b off,a=⟨b,off,none⟩:=by
 have h:w.cell? a=some u:=by simpa [Addr.add] using h
 obtain ⟨b,off,s⟩:=a
 cases s with
 | none=>exact ⟨b,off,rfl⟩
 | some s =>
  unfold World.cell? at h
  split at h
  ·simp at h
  ·cases h
theorem z7t {κ:IntKind} {w:World} {a:Addr} {len cap:Nat} {zs:List Int} (hl:len≤cap) (hm:cap≤maxLen) (hz:zs.length=cap) (hc:∀ i,i<zs.length→w.cell? (a.add i)=some (.int κ (zs.getD i 0))) :
  RdN κ w (.slice (some a) len cap) (zs.take len):=by
 have hlen:(zs.take len).length=len:=by simp;omega
 by_cases h0:len=0
 ·subst h0;exact ⟨some a,cap,0,0,by simp,by simp,hm,fun h=>absurd (by simp) h,fun j hj=>absurd hj (by simp)⟩
 ·obtain ⟨b,off,rfl⟩:=z6F (hc 0 (by omega));refine ⟨_,cap,b,off,by rw [hlen],by omega,hm,fun _=>rfl,fun j hj=>?_⟩;have:=hc j (by omega);rw [Addr.add_lit] at this;rw [this]
  congr 2
  rw [hlen] at hj;simp [List.getD,hj]
section
variable {H:Type} {enc:TypeId×Value→H} {P:Program} {W:World} {base:Nat}
theorem z2p {t:TypeId} {v:Value} {d:DataW H} {p:List MemPlace} (h:DataW.Trod enc P W 0 (fun _=>true) true t v d p):∀ x∈p,x.block<W.heap.size:=by
 obtain ⟨m,hm⟩:=h;exact DataW.trod_lt m _ _ _ hm
end
end Go.Proofs.YtgiiidminlhbpaaGreatDoor
namespace Go.Sx
open Go.RowKit
section
variable {w0 w:World} {F:HP} {b o:Nat} {u v x:Value} {xs:List Value}
theorem Sat.c1 (hs:Sat w0 w (pts b o (u::v::xs)*F)):w.cell? ⟨b,o+1,none⟩=some v:=hs.cell (j:=1) rfl
theorem Sat.c2 (hs:Sat w0 w (pts b o (u::v::x::xs)*F)):w.cell? ⟨b,o+2,none⟩=some x:=hs.cell (j:=2) rfl
theorem Sat.f1 (hs:Sat w0 w (pts b o (u::v::xs)*F)):w.frozen? ⟨b,o+1,none⟩=false:=hs.frz (j:=1) (by simp)
end
def ziV (p:Prop):Prop:=p
theorem zad {p:Prop} (h:ziV p):p:=h
theorem zlQ {p:Prop} (h:p):ziV p:=h
theorem z6 {w0 w:World} {P:HP} [h:Sat w0 w P]:Sat w0 w P:=h
class z2u (P Q:HP) (F:outParam HP):Prop where
 eq:P=Q*F
instance (priority:=2000) z2u.here (Q F:HP):z2u (Q*F) Q F:=⟨rfl⟩
instance (priority:=100) z2u.last (Q:HP):z2u Q Q emp:=⟨(zz Q).symm⟩
instance (priority:=1000) z2u.right (A G Q F:HP) [h:z2u G Q F]:z2u (A*G) Q (A*F):=⟨by rw [h.eq];ac_rfl⟩
instance (priority:=900) z2u.left (A G Q F:HP) [h:z2u A Q F]:z2u (A*G) Q (F*G):=⟨by rw [h.eq];ac_rfl⟩
theorem Sat.pull {w0 w:World} {P Q F:HP} (hs:Sat w0 w P) [h:z2u P Q F]:Sat w0 w (Q*F):=hs.perm h.eq
theorem own {w0 w:World} {P Q F:HP} [hs:Sat w0 w P] [h:z2u P Q F]:Sat w0 w (Q*F):=hs.perm h.eq
class Lt (k n:Nat):Prop where
 lt:k<n
class zC (P:HP) (b o:Nat) (v:outParam Value):Prop where
 cell:∀ {w0 w F},Sat w0 w (P*F)→w.cell? ⟨b,o,none⟩=some v
 free:∀ {w0 w F},Sat w0 w (P*F)→w.frozen? ⟨b,o,none⟩=false
instance (priority:=2000) zC.head (b o:Nat) (x:Value) (xs:List Value):zC (pts b o (x::xs)) b o x:=⟨fun h=>h.c0,fun h=>h.f0⟩
instance (priority:=1500) zC.tail (b o o':Nat) (x v:Value) (xs:List Value) [h:zC (pts b (o+1) xs) b o' v]:zC (pts b o (x::xs)) b o' v :=
 ⟨fun {w0 w F} hs=>h.cell (F:=pts b o [x]*F) (hs.perm (by rw [z2A];ac_rfl)),fun {w0 w F} hs=>h.free (F:=pts b o [x]*F) (hs.perm (by rw [z2A];ac_rfl))⟩
instance (priority:=1000) zC.left (A G:HP) (b o:Nat) (v:Value) [h:zC A b o v]:zC (A*G) b o v :=
 ⟨fun {w0 w F} hs=>h.cell (F:=G*F) (hs.perm (by ac_rfl)),fun {w0 w F} hs=>h.free (F:=G*F) (hs.perm (by ac_rfl))⟩
instance (priority:=900) zC.right (A G:HP) (b o:Nat) (v:Value) [h:zC G b o v]:zC (A*G) b o v :=
 ⟨fun {w0 w F} hs=>h.cell (F:=A*F) (hs.perm (by ac_rfl)),fun {w0 w F} hs=>h.free (F:=A*F) (hs.perm (by ac_rfl))⟩
theorem getElem?_map_int (κ:IntKind) {l:List Int} {k:Nat} (h:k<l.length):(l.map (Value.int κ))[k]?=some (.int κ (l.getD k 0)):=by simp [List.getD,h]
theorem getElem?_map_bool {l:List Bool} {k:Nat} (h:k<l.length):(l.map Value.bool)[k]?=some (.bool (l.getD k false)):=by simp [List.getD,h]
theorem z0z {w0 w:World} {F:HP} {b o:Nat} {xs:List Value} {k:Nat} {v:Value} (hs:Sat w0 w (pts b o xs*F)) (h:xs[k]?=some v):w.cell? ⟨b,o+k,none⟩=some v∧w.frozen? ⟨b,o+k,none⟩=false :=
 ⟨hs.cell h,hs.frz (List.getElem?_eq_some_iff.1 h).1⟩
instance (priority:=1200) zC.num (κ:IntKind) (b o k:Nat) (l:List Int) [h:Lt k l.length]:zC (pts b o (l.map (Value.int κ))) b (o+k) (.int κ (l.getD k 0)) :=
 ⟨fun hs=>(z0z hs (getElem?_map_int κ h.lt)).1,fun hs=>(z0z hs (getElem?_map_int κ h.lt)).2⟩
instance (priority:=1200) zC.bln (b o k:Nat) (l:List Bool) [h:Lt k l.length]:zC (pts b o (l.map Value.bool)) b (o+k) (.bool (l.getD k false)) :=
 ⟨fun hs=>(z0z hs (getElem?_map_bool h.lt)).1,fun hs=>(z0z hs (getElem?_map_bool h.lt)).2⟩
theorem z4 {w0 w:World} {P:HP} {b o:Nat} {v:Value} [h:Sat w0 w P] [c:zC P b o v]:w.cell? ⟨b,o,none⟩=some v:=c.cell (F:=emp) (h.perm (zz P).symm)
theorem zia {w0 w:World} {P:HP} {b o:Nat} {v:Value} [h:Sat w0 w P] [c:zC P b o v]:w.frozen? ⟨b,o,none⟩=false:=c.free (F:=emp) (h.perm (zz P).symm)
class Upd (P:HP) (b o:Nat) (v:Value) (P':outParam HP):Prop where
 upd:∀ {w0 w F},Sat w0 w (P*F)→Sat w0 (w.setCell ⟨b,o,none⟩ v) (P'*F)
instance (priority:=2000) Upd.head (b o:Nat) (x v:Value) (xs:List Value):Upd (pts b o (x::xs)) b o v (pts b o (v::xs)):=⟨fun h=>h.set0 v⟩
instance (priority:=1500) Upd.tail (b o o':Nat) (x v:Value) (xs ys:List Value) [h:Upd (pts b (o+1) xs) b o' v (pts b (o+1) ys)]:Upd (pts b o (x::xs)) b o' v (pts b o (x::ys)) :=
 ⟨fun {w0 w F} hs=>(h.upd (F:=pts b o [x]*F) (hs.perm (by rw [z2A];ac_rfl))).perm (by rw [z2A b o x ys];ac_rfl)⟩
instance (priority:=1000) Upd.left (A A' G:HP) (b o:Nat) (v:Value) [h:Upd A b o v A']:Upd (A*G) b o v (A'*G) :=
 ⟨fun {w0 w F} hs=>(h.upd (F:=G*F) (hs.perm (by ac_rfl))).perm (by ac_rfl)⟩
instance (priority:=900) Upd.right (A G G':HP) (b o:Nat) (v:Value) [h:Upd G b o v G']:Upd (A*G) b o v (A*G') :=
 ⟨fun {w0 w F} hs=>(h.upd (F:=A*F) (hs.perm (by ac_rfl))).perm (by ac_rfl)⟩
instance (priority:=1200) Upd.num (κ:IntKind) (b o k:Nat) (n:Int) (l:List Int) [h:Lt k l.length]:Upd (pts b o (l.map (Value.int κ))) b (o+k) (.int κ n) (pts b o ((l.set k n).map (Value.int κ))) :=
 ⟨fun hs=>by rw [List.map_set];exact hs.set (by rw [List.length_map];exact h.lt) _⟩
instance (priority:=1200) Upd.bln (b o k:Nat) (n:Bool) (l:List Bool) [h:Lt k l.length]:Upd (pts b o (l.map Value.bool)) b (o+k) (.bool n) (pts b o ((l.set k n).map Value.bool)) :=
 ⟨fun hs=>by rw [List.map_set];exact hs.set (by rw [List.length_map];exact h.lt) _⟩
class z89 (w:World) (n:outParam Nat):Prop where
 eq:w.heap.size=n
instance (priority:=100) z89.base (w:World):z89 w w.heap.size:=⟨rfl⟩
instance (priority:=1000) z89.set (w:World) (a:Addr) (v:Value) (n:Nat) [h:z89 w n]:z89 (w.setCell a v) n:=⟨by rw [World.size_setCell];exact h.eq⟩
instance (priority:=1000) z89.alloc (w:World) (o:Obj) (n:Nat) [h:z89 w n]:z89 (w.alloc o) (n+1):=⟨by simp [h.eq]⟩
instance Sat.iset (w0 w:World) (P P':HP) (b o:Nat) (v:Value) [h:Sat w0 w P] [u:Upd P b o v P']:Sat w0 (w.setCell ⟨b,o,none⟩ v) P' :=
 (u.upd (F:=emp) (h.perm (zz P).symm)).perm (zz P')
instance Sat.idrew (w0 w:World) (P:HP) [h:Sat w0 w P]:Sat w0 w.drew P:=h.drew
instance Sat.idrewN (w0 w:World) (P:HP) (n:Nat) [h:Sat w0 w P]:Sat w0 (w.drewN n) P:=h.drewN n
instance Sat.ialloc (w0 w:World) (P:HP) (l:List Value) (t:TypeId) (n:Nat) [h:Sat w0 w P] [s:z89 w n]:Sat w0 (w.alloc (.cells l.toArray t)) (pts n 0 l*P):=s.eq ▸ h.alloc l.toArray t
def any:HP:=fun _=>True
theorem Sat.toAny {w0 w:World} {P F:HP} (hs:Sat w0 w (P*F)):Sat w0 w (P*any):=((hs.perm (z0W P F)).wk fun _ _=>trivial).perm (z0W any P)
class z3r (P:HP) (κ:IntKind) (v:Value) (l:outParam (List Int)) (F:outParam HP):Prop where
 eq:P=z5 κ v l*F
instance (priority:=2000) z3r.here (κ:IntKind) (v:Value) (l:List Int) (F:HP):z3r (z5 κ v l*F) κ v l F:=⟨rfl⟩
instance (priority:=1000) z3r.right (A G F:HP) (κ:IntKind) (v:Value) (l:List Int) [h:z3r G κ v l F]:z3r (A*G) κ v l (A*F):=⟨by rw [h.eq];ac_rfl⟩
theorem Sat.nums_cell {w0 w:World} {F:HP} {κ:IntKind} {g off cap n:Nat} {l:List Int} (hs:Sat w0 w (z5 κ (.slice (some ⟨g,off,none⟩) n cap) l*F)) {k:Nat} (hk:k<l.length) :
  w.cell? ⟨g,off+k,none⟩=some (.int κ (l.getD k 0))∧w.frozen? ⟨g,off+k,none⟩=false:=by
 rcases hs.slice_out with ⟨e,_⟩ | ⟨g',off',cap',sp,e,_,_,hx,_,hs'⟩
 ·cases e
 ·simp only [Value.slice.injEq,Option.some.injEq,Addr.mk.injEq] at e;obtain ⟨⟨rfl,rfl,_⟩,_,_⟩:=e;exact z0z hs' (by rw [List.getElem?_append_left (by simpa using hk)];exact getElem?_map_int κ hk)
instance (priority:=1200) zC.nums (κ:IntKind) (g off n cap k:Nat) (l:List Int) [h:Lt k l.length]:zC (z5 κ (.slice (some ⟨g,off,none⟩) n cap) l) g (off+k) (.int κ (l.getD k 0)) :=
 ⟨fun hs=>(hs.nums_cell h.lt).1,fun hs=>(hs.nums_cell h.lt).2⟩
class Old (w0:World) (b o:Nat) (v:outParam Value):Prop where
 old:w0.cell? ⟨b,o,none⟩=some v
theorem zkO {w0 w:World} {P:HP} {b o:Nat} {v:Value} [h:Sat w0 w P] [c:Old w0 b o v]:w.cell? ⟨b,o,none⟩=some v:=h.keep c.old
attribute [go_sem] z4 zia zkO
class z64 (P:HP) (b o:Nat) (xs:outParam (List Value)) (F:outParam HP):Prop where
 eq:P=pts b o xs*F
instance (priority:=2000) z64.here (b o:Nat) (xs:List Value) (F:HP):z64 (pts b o xs*F) b o xs F:=⟨rfl⟩
instance (priority:=1000) z64.right (A G F:HP) (b o:Nat) (xs:List Value) [h:z64 G b o xs F]:z64 (A*G) b o xs (A*F):=⟨by rw [h.eq];ac_rfl⟩
class Frm (P F:HP):Prop where
 out:∀ {w0 w Q},Sat w0 w (Q*P)→Sat w0 w (Q*F)
instance (priority:=2000) Frm.refl (F:HP):Frm F F:=⟨fun h=>h⟩
instance (priority:=1000) Frm.right (A G F:HP) [h:Frm G F]:Frm (A*G) F:=⟨fun {w0 w Q} hs=>h.out (hs.perm (by ac_rfl:_=A*(Q*G))).drop⟩
instance (priority:=900) Frm.left (A G F:HP) [h:Frm A F]:Frm (A*G) F:=⟨fun {w0 w Q} hs=>h.out (hs.perm (by ac_rfl:_=G*(Q*A))).drop⟩
instance (priority:=1500) Frm.pull (P A F G:HP) [h:z2u P A F] [f:Frm F G]:Frm P (A*G):=⟨fun {w0 w Q} hs=>(f.out (Q:=Q*A) (hs.perm (by rw [h.eq];ac_rfl))).perm (by ac_rfl)⟩
instance (priority:=3000) Frm.any (P:HP):Frm P any:=⟨fun hs=>hs.toAny⟩
instance (priority:=2900) Frm.emp (P:HP):Frm P emp:=⟨fun hs=>hs.fst.perm (zz _).symm⟩
theorem Sat.left {w0 w:World} {P F:HP} (hs:Sat w0 w P) [f:Frm P F]:Sat w0 w F:=(f.out (Q:=emp) (hs.perm (zm P).symm)).perm (zm F)
theorem zea {w0 w:World} {P A B F1 F2:HP} [hs:Sat w0 w P] [h:z2u P A F1] [h2:z2u F1 B F2]:Sat w0 w (A*(B*F2)):=hs.perm (by rw [h.eq,h2.eq])
theorem zq {w0 w:World} {P Q F:HP} [hs:Sat w0 w P] [h:z2u P Q F]:Sat w0 w (Q*any):=(hs.perm h.eq).toAny
theorem zk {w0 w:World} {P A B F1 F2:HP} [hs:Sat w0 w P] [h:z2u P A F1] [h2:z2u F1 B F2]:Sat w0 w (A*(B*any)) :=
 ((hs.perm (by rw [h.eq,h2.eq,zb]:P=A*B*F2)).toAny).perm (zb _ _ _)
theorem z3 {w0 w:World} {P F:HP} [hs:Sat w0 w P] [f:Frm P F]:Sat w0 w F:=hs.left
class Rd (w:World) (κ:IntKind) (v:Value) (l:outParam (List Int)):Prop where
 rd:RdN κ w v l
instance (priority:=1000) Rd.own (w0 w:World) (P:HP) (κ:IntKind) (v:Value) (l:List Int) (F:HP) [h:Sat w0 w P] [p:z3r P κ v l F]:Rd w κ v l:=⟨(h.perm p.eq).rdN⟩
instance (priority:=1100) Rd.one (w:World) (κ:IntKind) (x:Int) (t:TypeId) (n:Nat) [s:z89 w n]:Rd (w.alloc (.cells [Value.int κ x].toArray t)) κ (.slice (some ⟨n,0,none⟩) 1 1) [x]:=⟨s.eq ▸ zkU κ [x] w t (by simp [maxLen])⟩
theorem rd {w:World} {κ:IntKind} {v:Value} {l:List Int} [h:Rd w κ v l]:RdN κ w v l:=h.rd
theorem z1r (κ:IntKind):z5 κ (.slice none 0 0) []=emp:=HP.same fun h=>by
 constructor
 ·intro p
  rcases p with ⟨_,_,_,e⟩ | ⟨g,off,cap,sp,e,_⟩
  ·exact e
  ·cases e
 ·intro e;exact Or.inl ⟨rfl,rfl,rfl,e⟩
theorem RdN.len_eq {κ:IntKind} {w:World} {ad:Option Addr} {n c:Nat} {l:List Int} (h:RdN κ w (.slice ad n c) l):n=l.length:=by
 obtain ⟨a,cap,b,o,e,_⟩:=h;simp only [Value.slice.injEq] at e;exact e.2.1
class zjz (P:Program) (t:TypeId) (κ:outParam IntKind) (e bytes:outParam Nat) (z:outParam Value):Prop where
 el:z1m P t e 1 bytes z
 le:bytes≤8
theorem z4k {P:Program} {w0 w:World} {P0 F:HP} {t e bytes:Nat} {z:Value} {κ:IntKind} {l l2:List Int} {K:Act→World→Prop} {o:Oper} {a:Act} {Q:Exit→Act→World→Prop} {s x:Operand} {ad sa:Option Addr} {m c sn sc:Nat}
  (ho:o.op=.call { callee:=.builtin .append,args:=#[s,x],argTypes:=#[t,t] }) [E:zjz P t κ e bytes z]
  (hv:a.eval s=.slice sa sn sc) (hx:a.eval x=.slice ad m c) [hs:Sat w0 w P0] [hp:z3r P0 κ (.slice sa sn sc) l F] [hr:Rd w κ (.slice ad m c) l2]
  (h63:sn+m≤1000000000)
  (h:∀ a' cap' L w',Hid (L=l++l2)→L.length≤sn+m→sn+m≤L.length→Sat w0 w' (z5 κ (.slice a' L.length cap') L*F)→w.heap.size≤w'.heap.size→K (a.put o.dst (.slice a' L.length cap')) w'):o.wp P a w K Q:=by
 have hn:=hr.rd.news;have hml:m=l2.length:=hn.1;have hsl:sn=l.length:=((hs.perm hp.eq).rdN (F:=F)).len_eq;have hs1:Sat w0 w (z5 κ (.slice sa sn sc) l*F):=hs.perm hp.eq;have hbb:(l.length+m)*bytes≤140737488355328:=Nat.le_trans (Nat.mul_le_mul (show l.length+m≤1000000000 by omega) E.le) (by decide);refine z0E s x ho E.el hv hs1 ad m c (l2.map (Value.int κ)) hx (by simp [hml]) hn.2.1 hn.2.2 (z1R l2) (by unfold maxLen;omega) hbb ?_;intro v' w' hs' hz;have hs2:Sat w0 w' (z5 κ v' (l++l2)*F):=by
  unfold z5;rw [List.length_append,List.map_append,← hml];exact hs'
 obtain ⟨a',cap',rfl⟩:=hs2.slice_form;exact h a' cap' _ w' rfl (by simp;omega) (by simp;omega) hs2 hz
class z5b (P:HP) (a:Option Addr) (κ:outParam IntKind) (n c:outParam Nat) (l:outParam (List Int)) (F:outParam HP):Prop where
 eq:P=z5 κ (.slice a n c) l*F
instance (priority:=2000) z5b.here (κ:IntKind) (a:Option Addr) (n c:Nat) (l:List Int) (F:HP):z5b (z5 κ (.slice a n c) l*F) a κ n c l F:=⟨rfl⟩
instance (priority:=1000) z5b.right (A G F:HP) (κ:IntKind) (a:Option Addr) (n c:Nat) (l:List Int) [h:z5b G a κ n c l F]:z5b (A*G) a κ n c l (A*F):=⟨by rw [h.eq];ac_rfl⟩
theorem Sat.someA {w0 w:World} {P F:HP} {κ:IntKind} {n c:Nat} {l:List Int} (hs:Sat w0 w P) (a:Option Addr) [p:z5b P a κ n c l F] (h:0<l.length):∃ g off,a=some ⟨g,off,none⟩:=by
 rcases (hs.perm p.eq).slice_out with ⟨_,h0,_⟩ | ⟨g,off,cap,sp,e,_⟩
 ·omega
 ·simp only [Value.slice.injEq] at e;exact ⟨g,off,e.1⟩
theorem z06 {P:Program} {w0 w:World} {P0 F:HP} {t e bytes:Nat} {z:Value} {κ:IntKind} {l l2:List Int} {ops:Array Oper} {rest:List Oper} {o:Oper} {a:Act} {Q:Exit→Act→World→Prop} {s x:Operand} {ad sa:Option Addr} {m c sn sc:Nat}
  (hgd:o.guard=none) (ho:o.op=.call { callee:=.builtin .append,args:=#[s,x],argTypes:=#[t,t] }) [E:zjz P t κ e bytes z]
  (hv:a.eval s=.slice sa sn sc) (hx:a.eval x=.slice ad m c) [hs:Sat w0 w P0] [hp:z3r P0 κ (.slice sa sn sc) l F] [hr:Rd w κ (.slice ad m c) l2]
  (h63:sn+m≤1000000000)
  (h:∀ a' cap' L w',Hid (L=l++l2)→L.length≤sn+m→sn+m≤L.length→Sat w0 w' (z5 κ (.slice a' L.length cap') L*F)→w.heap.size≤w'.heap.size→wpList P ops Q rest (a.put o.dst (.slice a' L.length cap')) w'):wpList P ops Q (o::rest) a w :=
 wpList_plain hgd fun _ hK=>z4k ho hv hx h63 fun a' cap' L w' h1 h2 h3 h4 h5=>hK _ _ (h a' cap' L w' h1 h2 h3 h4 h5)
section
variable {P:Program} {w:World} {t e bytes:Nat} {z:Value} {κ:IntKind} {l:List Int} {ops:Array Oper} {rest:List Oper} {o:Oper} {a:Act} {Q:Exit→Act→World→Prop} {s lo hi:Operand} {sa:Option Addr} {sn sc:Nat} {i j:Int}
end
theorem z52 {w0:World} {P F:HP} {κ:IntKind} {v:Value} {l:List Int} [h:z3r P κ v l F]:z6E w0 P κ v l:=fun _ hs=>(hs.perm h.eq).rdN
theorem zif {P:Program} {f:FuncId} {args:Array Value} {w:World} {n:Nat} {v:Value}
  (h:Calls P f args (w.drewN n) fun e w'=>e=.returned v∧w.drewN n=w'):Calls P f args (w.drewN n) fun e w''=>e=.returned v∧∃ m,w''=w.drewN m :=
 h.mono fun _ _ ⟨he,hm⟩=>⟨he,n,hm.symm⟩
theorem z2a {P:Program} {f:FuncId} {args:Array Value} {w:World} {n:Nat} {v:Value}
  (h:Calls P f args (w.drewN n) fun e w'=>e=.returned v∧∃ m,w'=(w.drewN n).drewN m):Calls P f args (w.drewN n) fun e w''=>e=.returned v∧∃ m,w''=w.drewN m :=
 Calls.quiet_of h
theorem z9 {P:Program} {c:Code} {Q:Exit→Act→World→Prop} {a:Act} {w0 w:World} {R:HP} [h:Sat w0 w R] (k:∀ wx,Sat w0 wx R→c.wp P Q a wx):c.wp P Q a w:=k w h
theorem zev {P:Program} {ops:Array Oper} {l:List Oper} {Q:Exit→Act→World→Prop} {a:Act} {w0 w:World} {R:HP} [h:Sat w0 w R] (k:∀ wx,Sat w0 wx R→wpList P ops Q l a wx):wpList P ops Q l a w:=k w h
end Go.Sx
namespace Go.Rq
def fst:List Nat→Int
 | []=>-1
 | a::_=>a
def nxt:List Nat→Nat→Int
 | [],_=>-1
 | a::q,t=>if a=t then fst q else nxt q t
def prv (p:Int):List Nat→Nat→Int
 | [],_=>p
 | a::q,t=>if a=t then p else prv a q t
def lst (p:Int):List Nat→Int
 | []=>p
 | a::q=>lst a q
theorem z8q (x:Nat):∀ (p:Int) (q:List Nat),lst p (q++[x])=x
 | _,[]=>rfl
 | _,a::q=>z8q x a q
theorem zdH (q:List Nat) (x:Nat):fst (q++[x])=if q=[] then (x:Int) else fst q:=by cases q<;>simp [fst]
theorem ze8 {q:List Nat} {x t:Nat} (ht:t∈q) (hn:(q++[x]).Nodup):nxt (q++[x]) t=if lst (-1) q=(t:Int) then (x:Int) else nxt q t:=by
 have key:∀ (q:List Nat) (p:Int),t∈q→(q++[x]).Nodup→nxt (q++[x]) t=if lst p q=(t:Int) then (x:Int) else nxt q t:=by
  intro q
  induction q with
  | nil=>intro p h;cases h
  | cons a q ih =>
   intro p h hn;simp only [List.cons_append,List.nodup_cons] at hn
   by_cases e:a=t
   ·subst e;simp only [List.cons_append,nxt,if_true,lst]
    cases q with
    | nil=>simp [fst,lst]
    | cons b q =>
     rw [if_neg]
     ·rfl
     ·intro hl;have:a∈b::q:=by
       have hm:∀ (q:List Nat) (b:Nat), ∃ m∈b::q,lst (a:Int) (b::q)=(m:Int):=by
        intro q
        induction q with
        | nil=>intro b;exact ⟨b,by simp,rfl⟩
        | cons c q ih2 =>
         intro b;obtain ⟨m,hm,he⟩:=ih2 c;exact ⟨m,by simp at hm ⊢;exact .inr hm,he⟩
       obtain ⟨m,hm,he⟩:=hm q b;rw [he] at hl;have:m=a:=by omega
       rwa [← this]
      exact hn.1 (List.mem_append_left _ this)
   ·simp only [List.cons_append,nxt,if_neg e,lst];exact ih a (by simpa [Ne.symm e,eq_comm,e] using (List.mem_cons.1 h).resolve_left (Ne.symm e)) hn.2
 exact key q (-1) ht hn
theorem zi6 {q:List Nat} {x:Nat} (hx:x ∉ q):nxt (q++[x]) x=-1:=by
 induction q with
 | nil=>simp [nxt,fst]
 | cons a q ih =>
  have h:a≠x∧x ∉ q:=by simpa [eq_comm,not_or] using hx
  simp only [List.cons_append,nxt,if_neg h.1];exact ih h.2
theorem zee {q:List Nat} {x t:Nat} (ht:t∈q):∀ p:Int,prv p (q++[x]) t=prv p q t:=by
 induction q with
 | nil=>cases ht
 | cons a q ih =>
  intro p
  by_cases e:a=t
  ·simp [prv,e]
  ·simp only [List.cons_append,prv,if_neg e];exact ih ((List.mem_cons.1 ht).resolve_left (Ne.symm e)) a
theorem zid {q:List Nat} {x:Nat} (hx:x ∉ q):∀ p:Int,prv p (q++[x]) x=lst p q:=by
 induction q with
 | nil=>intro p;simp [prv,lst]
 | cons a q ih =>
  intro p;have h:a≠x∧x ∉ q:=by simpa [eq_comm,not_or] using hx
  simp only [List.cons_append,prv,if_neg h.1,lst];exact ih h.2 a
theorem zg6 {u v:List Nat} {x:Nat} (hx:x ∉ u):nxt (u++x::v) x=fst v:=by
 induction u with
 | nil=>simp [nxt]
 | cons a u ih =>
  have h:a≠x∧x ∉ u:=by simpa [eq_comm,not_or] using hx
  simp only [List.cons_append,nxt,if_neg h.1];exact ih h.2
theorem zkR {u v:List Nat} {x:Nat} (hx:x ∉ u):∀ p:Int,prv p (u++x::v) x=lst p u:=by
 induction u with
 | nil=>intro p;simp [prv,lst]
 | cons a u ih =>
  intro p;have h:a≠x∧x ∉ u:=by simpa [eq_comm,not_or] using hx
  simp only [List.cons_append,prv,if_neg h.1,lst];exact ih h.2 a
theorem zc0 (p:Int):∀ (q:List Nat) (b:Nat), ∃ m∈b::q,lst p (b::q)=(m:Int)
 | [],b=>⟨b,by simp,rfl⟩
 | c::q,b=>by
  obtain ⟨m,hm,he⟩:=zc0 p q c;refine ⟨m,by simp at hm ⊢;exact .inr hm,?_⟩;simp only [lst] at he ⊢;exact he
theorem z8r (p:Int) (q:List Nat):(q=[]∧lst p q=p)∨∃ m∈q,lst p q=(m:Int):=by
 cases q with
 | nil=>exact .inl ⟨rfl,rfl⟩
 | cons b q=>exact .inr (zc0 p q b)
theorem zd7 (p:Int) (u:List Nat) (x:Nat) (v:List Nat):lst p (u++x::v)=lst x v:=by
 induction u generalizing p with
 | nil=>rfl
 | cons a u ih=>exact ih a
theorem zkM {u v:List Nat} {x t:Nat} (ht:t∈u++v) (hn:(u++x::v).Nodup):nxt (u++v) t=if lst (-1) u=(t:Int) then fst v else nxt (u++x::v) t:=by
 have key:∀ (u:List Nat) (p:Int),(∀ m,p=(m:Nat)→m ∉ u++v∨m≠t)→t∈u++v→(u++x::v).Nodup→p≠(t:Int)→nxt (u++v) t=if lst p u=(t:Int) then fst v else nxt (u++x::v) t:=by
  intro u
  induction u with
  | nil =>
   intro p _ h hn hp;simp only [List.nil_append,List.nodup_cons] at hn h ⊢;have hxt:x≠t:=by rintro rfl;exact hn.1 h
   simp only [lst,if_neg hp,nxt,if_neg hxt]
  | cons a u ih =>
   intro p hp h hn hpt;simp only [List.cons_append,List.nodup_cons] at hn h
   by_cases e:a=t
   ·subst e;simp only [List.cons_append,nxt,if_true,lst]
    cases u with
    | nil=>simp [lst]
    | cons b u =>
     rw [if_neg]
     ·rfl
     ·intro hl;obtain ⟨m,hm,he⟩:=zc0 (a:Int) u b;rw [he] at hl;have:m=a:=by omega
      subst this;exact hn.1 (List.mem_append_left _ hm)
   ·simp only [List.cons_append,nxt,if_neg e,lst];exact ih a (fun m hm=>.inr (by omega)) ((List.mem_cons.1 h).resolve_left (Ne.symm e)) hn.2 (by omega)
 exact key u (-1) (fun m h=>absurd h (by omega)) ht hn (by omega)
theorem zkQ {u v:List Nat} {x t:Nat} (ht:t∈u++v) (hn:(u++x::v).Nodup):prv (-1) (u++v) t=if fst v=(t:Int) then lst (-1) u else prv (-1) (u++x::v) t:=by
 have key:∀ (u:List Nat) (p:Int),t∈u++v→(u++x::v).Nodup→prv p (u++v) t=if fst v=(t:Int) then lst p u else prv p (u++x::v) t:=by
  intro u
  induction u with
  | nil =>
   intro p h hn;simp only [List.nil_append,List.nodup_cons] at hn h ⊢;have hxt:x≠t:=by rintro rfl;exact hn.1 h
   cases v with
   | nil=>cases h
   | cons b v =>
    simp only [fst,prv,if_neg hxt,lst]
    by_cases e:b=t
    ·subst e;simp
    ·rw [if_neg e,if_neg (by omega),if_neg e]
  | cons a u ih =>
   intro p h hn;simp only [List.cons_append,List.nodup_cons] at hn h
   by_cases e:a=t
   ·subst e;simp only [List.cons_append,prv,if_true];rw [if_neg];intro hl
    cases v with
    | nil=>simp only [fst] at hl;omega
    | cons b v =>
     simp only [fst] at hl;have:b=a:=by omega
     subst this;exact hn.1 (by simp)
   ·simp only [List.cons_append,prv,if_neg e,lst];exact ih a ((List.mem_cons.1 h).resolve_left (Ne.symm e)) hn.2
 exact key u (-1) ht hn
def ag (l:List Int) (k:Nat):Int:=l.getD k 0
theorem z11 {l:List Int} {k:Nat} (h:k<l.length) (v:Int) (j:Nat):ag (l.set k v) j=if k=j then v else ag l j:=by
 unfold ag
 by_cases e:k=j
 ·subst e;simp [List.getD,h]
 ·rw [if_neg e];simp [List.getD,List.getElem?_set_ne e]
def up (R:Nat→List Nat) (l:Nat) (q:List Nat):Nat→List Nat:=fun k=>if k=l then q else R k
theorem z0n (R:Nat→List Nat) (l:Nat) (q:List Nat):up R l q l=q:=if_pos rfl
theorem z02 (R:Nat→List Nat) {l k:Nat} (q:List Nat) (h:k≠l):up R l q k=R k:=if_neg h
structure Rep (R:Nat→List Nat) (n:Nat) (fr bk ah af lv:List Int):Prop where
 lfr:fr.length=32
 lbk:bk.length=32
 lah:ah.length=64
 laf:af.length=64
 llv:lv.length=64
 rng:∀ {l t},t∈R l→t<64
 out:∀ {l t},t∈R l→l<32
 nd:∀ l,(R l).Nodup
 one:∀ {l l' t},t∈R l→t∈R l'→l=l'
 bit:∀ {l},l<32→n.testBit l=decide (R l≠[])
 top:n<4294967296
 hfr:∀ {l},R l≠[]→ag fr l=fst (R l)
 hbk:∀ {l},R l≠[]→ag bk l=lst (-1) (R l)
 hah:∀ {l t},t∈R l→ag ah t=prv (-1) (R l) t
 haf:∀ {l t},t∈R l→ag af t=nxt (R l) t
 hlv:∀ {l t},t∈R l→ag lv t=l+1
 hlv0:∀ {t},t<64→(∀ l,t ∉ R l)→ag lv t=0
theorem z30 {l:Nat} (h:l<32):2^l<4294967296:=Nat.pow_lt_pow_right (by omega) (show l<32 from h)
theorem zmp {n l:Nat} (hn:n<4294967296) (h:l<32):n ||| 2^l<4294967296:=Nat.or_lt_two_pow (n:=32) hn (z30 h)
theorem zbo {n m:Nat} (hn:n<4294967296):n &&& m<4294967296:=Nat.lt_of_le_of_lt Nat.and_le_left hn
theorem zlB (n l k:Nat):(n ||| 2^l).testBit k=(n.testBit k || decide (l=k)):=by rw [Nat.testBit_or,Nat.testBit_two_pow]
theorem zjI {n l k:Nat} (hl:l<32) (hk:k<32):(n &&& (4294967295-2^l)).testBit k=(n.testBit k && !decide (l=k)):=by
 have h1:4294967295-2^l=2^32-(2^l+1):=by omega
 rw [Nat.testBit_and,h1,Nat.testBit_two_pow_sub_succ (z30 hl),Nat.testBit_two_pow];simp [hk]
theorem Rep.push {R n fr bk ah af lv} (h:Rep R n fr bk ah af lv) {t l:Nat} (ht:t<64) (hl:l<32) (hno:∀ k,t ∉ R k) {fr' ah' af1:List Int}
  (h1:R l=[]→fr'=fr.set l t∧ah'=ah.set t (-1)∧af1=af)
  (h2:R l≠[]→fr'=fr∧ah'=ah.set t (lst (-1) (R l))∧af1=af.set (lst (-1) (R l)).toNat t) :
  Rep (up R l (R l++[t])) (n ||| 2^l) fr' (bk.set l t) ah' (af1.set t (-1)) (lv.set t (l+1)):=by
 have mem:∀ {k x},x∈up R l (R l++[t]) k→(x=t∧k=l)∨(x≠t∧x∈R k):=by
  intro k x hx
  by_cases e:k=l
  ·subst e;rw [z0n,List.mem_append,List.mem_singleton] at hx
   by_cases e2:x=t
   ·exact .inl ⟨e2,rfl⟩
   ·exact .inr ⟨e2,hx.resolve_right e2⟩
  ·rw [z02 _ _ e] at hx;exact .inr ⟨by rintro rfl;exact hno k hx,hx⟩
 have hnd:(R l++[t]).Nodup:=by
  rw [List.nodup_append];exact ⟨h.nd l,by simp,fun a ha b hb=>by rw [List.mem_singleton] at hb;subst hb;rintro rfl;exact hno l ha⟩
 have lfr':fr'.length=32∧ah'.length=64∧af1.length=64:=by
  by_cases e:R l=[]
  ·obtain ⟨rfl,rfl,rfl⟩:=h1 e;simp [h.lfr,h.lah,h.laf]
  ·obtain ⟨rfl,rfl,rfl⟩:=h2 e;simp [h.lfr,h.lah,h.laf]
 refine ⟨lfr'.1,by simp [h.lbk],lfr'.2.1,by simp [lfr'.2.2],by simp [h.llv],?_,?_,?_,?_,?_,zmp h.top hl,?_,?_,?_,?_,?_,?_⟩
 ·intro k x hx
  rcases mem hx with ⟨rfl,_⟩ | ⟨_,hx⟩
  ·exact ht
  ·exact h.rng hx
 ·intro k x hx
  rcases mem hx with ⟨_,rfl⟩ | ⟨_,hx⟩
  ·exact hl
  ·exact h.out hx
 ·intro k
  by_cases e:k=l
  ·subst e;rw [z0n];exact hnd
  ·rw [z02 _ _ e];exact h.nd k
 ·intro k k' x hx hx'
  rcases mem hx with ⟨rfl,rfl⟩ | ⟨hne,hx⟩<;>rcases mem hx' with ⟨e,e'⟩ | ⟨hne',hx'⟩
  ·exact e'.symm
  ·exact absurd rfl hne'
  ·exact absurd e hne
  ·exact h.one hx hx'
 ·intro k hk;rw [zlB,h.bit hk]
  by_cases e:l=k
  ·subst e;simp [z0n]
  ·rw [z02 _ _ (Ne.symm e)];simp [e]
 ·intro k hk
  by_cases e:k=l
  ·subst e;rw [z0n,zdH]
   by_cases e2:R k=[]
   ·obtain ⟨rfl,_,_⟩:=h1 e2;rw [if_pos e2,z11 (by rw [h.lfr];exact hl),if_pos rfl]
   ·obtain ⟨rfl,_,_⟩:=h2 e2;rw [if_neg e2];exact h.hfr e2
  ·rw [z02 _ _ e] at hk ⊢
   by_cases e2:R l=[]
   ·obtain ⟨rfl,_,_⟩:=h1 e2;rw [z11 (by rw [h.lfr];exact hl),if_neg (Ne.symm e)];exact h.hfr hk
   ·obtain ⟨rfl,_,_⟩:=h2 e2;exact h.hfr hk
 ·intro k hk;rw [z11 (by rw [h.lbk];exact hl)]
  by_cases e:k=l
  ·subst e;rw [z0n,if_pos rfl,z8q]
  ·rw [z02 _ _ e] at hk ⊢;rw [if_neg (Ne.symm e)];exact h.hbk hk
 ·intro k x hx
  rcases mem hx with ⟨rfl,rfl⟩ | ⟨hne,hy⟩
  ·rw [z0n,zid (hno k)]
   by_cases e2:R k=[]
   ·obtain ⟨_,rfl,_⟩:=h1 e2;rw [z11 (by rw [h.lah];exact ht),if_pos rfl,e2];rfl
   ·obtain ⟨_,rfl,_⟩:=h2 e2;rw [z11 (by rw [h.lah];exact ht),if_pos rfl]
  ·have e3:ag ah' x=ag ah x:=by
    by_cases e2:R l=[]
    ·obtain ⟨_,rfl,_⟩:=h1 e2;rw [z11 (by rw [h.lah];exact ht),if_neg (Ne.symm hne)]
    ·obtain ⟨_,rfl,_⟩:=h2 e2;rw [z11 (by rw [h.lah];exact ht),if_neg (Ne.symm hne)]
   rw [e3,h.hah hy]
   by_cases e:k=l
   ·subst e;rw [z0n,zee hy]
   ·rw [z02 _ _ e]
 ·intro k x hx;rw [z11 (by rw [lfr'.2.2];exact ht)]
  rcases mem hx with ⟨rfl,rfl⟩ | ⟨hne,hy⟩
  ·rw [if_pos rfl,z0n,zi6 (hno k)]
  ·rw [if_neg (Ne.symm hne)]
   by_cases e:k=l
   ·subst e;have e2:R k≠[]:=by intro e;rw [e] at hy;cases hy
    obtain ⟨_,_,rfl⟩:=h2 e2;rw [z0n,ze8 hy hnd]
    rcases z8r (-1) (R k) with ⟨e4,_⟩ | ⟨m,hm,em⟩
    ·exact absurd e4 e2
    ·rw [em,Int.toNat_natCast,z11 (by rw [h.laf];exact h.rng hm)]
     by_cases e5:m=x
     ·rw [if_pos e5,if_pos (by omega)]
     ·rw [if_neg e5,if_neg (by omega)];exact h.haf hy
   ·rw [z02 _ _ e,← h.haf hy]
    by_cases e2:R l=[]
    ·obtain ⟨_,_,rfl⟩:=h1 e2;rfl
    ·obtain ⟨_,_,rfl⟩:=h2 e2
     rcases z8r (-1) (R l) with ⟨e4,_⟩ | ⟨m,hm,em⟩
     ·exact absurd e4 e2
     ·rw [em,Int.toNat_natCast,z11 (by rw [h.laf];exact h.rng hm),if_neg];rintro rfl;exact e (h.one hy hm)
 ·intro k x hx;rw [z11 (by rw [h.llv];exact ht)]
  rcases mem hx with ⟨rfl,rfl⟩ | ⟨hne,hy⟩
  ·rw [if_pos rfl]
  ·rw [if_neg (Ne.symm hne)];exact h.hlv hy
 ·intro x hx hno';have hxt:x≠t:=by rintro rfl;exact hno' l (by rw [z0n];simp)
  rw [z11 (by rw [h.llv];exact ht),if_neg (Ne.symm hxt)];refine h.hlv0 hx fun k hk=>hno' k ?_
  by_cases e:k=l
  ·subst e;rw [z0n];exact List.mem_append_left _ hk
  ·rw [z02 _ _ e];exact hk
theorem zj9 (v:List Nat):(v=[]∧fst v=-1)∨∃ m∈v,fst v=(m:Int):=by
 cases v with
 | nil=>exact .inl ⟨rfl,rfl⟩
 | cons b v=>exact .inr ⟨b,by simp,rfl⟩
theorem Rep.cut {R n fr bk ah af lv} (h:Rep R n fr bk ah af lv) {t l:Nat} {u v:List Nat} (hr:R l=u++t::v) {fr' bk' ah' af':List Int} {n':Nat}
  (h1:u=[]→fr'=fr.set l (fst v)∧af'=af) (h2:u≠[]→fr'=fr∧af'=af.set (lst (-1) u).toNat (fst v))
  (h3:v=[]→bk'=bk.set l (lst (-1) u)∧ah'=ah) (h4:v≠[]→bk'=bk∧ah'=ah.set (fst v).toNat (lst (-1) u))
  (h5:u=[]∧v=[]→n'=n &&& (4294967295-2^l)) (h6:¬ (u=[]∧v=[])→n'=n) :
  Rep (up R l (u++v)) n' fr' bk' ah' af' (lv.set t 0):=by
 have htl:t∈R l:=by rw [hr];simp
 have ht:=h.rng htl;have hl:=h.out htl;have hnd:=h.nd l;rw [hr] at hnd;have hnd':(u++v).Nodup:=by
  rw [List.nodup_append] at hnd ⊢;exact ⟨hnd.1,(List.nodup_cons.1 hnd.2.1).2,fun a ha b hb=>hnd.2.2 a ha b (List.mem_cons_of_mem _ hb)⟩
 have htu:t ∉ u:=by
  rw [List.nodup_append] at hnd;intro hu;exact hnd.2.2 t hu t (by simp) rfl
 have htv:t ∉ v:=by
  rw [List.nodup_append] at hnd;exact (List.nodup_cons.1 hnd.2.1).1
 have mem:∀ {k x},x∈up R l (u++v) k→x≠t∧x∈R k:=by
  intro k x hx
  by_cases e:k=l
  ·subst e;rw [z0n] at hx;refine ⟨?_,?_⟩
   ·rintro rfl
    rcases List.mem_append.1 hx with hx | hx
    ·exact htu hx
    ·exact htv hx
   ·rw [hr]
    rcases List.mem_append.1 hx with hx | hx
    ·exact List.mem_append_left _ hx
    ·exact List.mem_append_right _ (List.mem_cons_of_mem _ hx)
  ·rw [z02 _ _ e] at hx;exact ⟨by rintro rfl;exact e (h.one hx htl),hx⟩
 have ufacts:u=[]∨∃ m∈u,lst (-1) u=(m:Int):=by
  rcases z8r (-1) u with ⟨e,_⟩ | e
  ·exact .inl e
  ·exact .inr e
 have vfacts:v=[]∨∃ m∈v,fst v=(m:Int):=by
  rcases zj9 v with ⟨e,_⟩ | e
  ·exact .inl e
  ·exact .inr e
 have lens:fr'.length=32∧af'.length=64∧bk'.length=32∧ah'.length=64:=by
  refine ⟨?_,?_,?_,?_⟩
  ·by_cases e:u=[]
   ·rw [(h1 e).1];simp [h.lfr]
   ·rw [(h2 e).1];exact h.lfr
  ·by_cases e:u=[]
   ·rw [(h1 e).2];exact h.laf
   ·rw [(h2 e).2];simp [h.laf]
  ·by_cases e:v=[]
   ·rw [(h3 e).1];simp [h.lbk]
   ·rw [(h4 e).1];exact h.lbk
  ·by_cases e:v=[]
   ·rw [(h3 e).2];exact h.lah
   ·rw [(h4 e).2];simp [h.lah]
 refine ⟨lens.1,lens.2.2.1,lens.2.2.2,lens.2.1,by simp [h.llv],fun hx=>h.rng (mem hx).2,fun hx=>h.out (mem hx).2,?_,fun hx hx'=>h.one (mem hx).2 (mem hx').2,?_,?_,?_,?_,?_,?_,?_,?_⟩
 ·intro k
  by_cases e:k=l
  ·subst e;rw [z0n];exact hnd'
  ·rw [z02 _ _ e];exact h.nd k
 ·intro k hk
  by_cases e0:u=[]∧v=[]
  ·rw [h5 e0,zjI hl hk,h.bit hk]
   by_cases e:l=k
   ·subst e;simp [z0n,e0.1,e0.2]
   ·rw [z02 _ _ (Ne.symm e)];simp [e]
  ·rw [h6 e0,h.bit hk]
   by_cases e:k=l
   ·subst e;rw [z0n,hr];simp only [ne_eq,List.append_eq_nil_iff];simp [e0]
   ·rw [z02 _ _ e]
 ·by_cases e0:u=[]∧v=[]
  ·rw [h5 e0];exact zbo h.top
  ·rw [h6 e0];exact h.top
 ·intro k hk
  by_cases e:k=l
  ·subst e;rw [z0n] at hk ⊢
   by_cases eu:u=[]
   ·rw [(h1 eu).1,z11 (by rw [h.lfr];exact hl),if_pos rfl,eu];rfl
   ·rw [(h2 eu).1,h.hfr (by rw [hr];simp),hr]
    cases u with
    | nil=>exact absurd rfl eu
    | cons a u=>rfl
  ·rw [z02 _ _ e] at hk ⊢
   by_cases eu:u=[]
   ·rw [(h1 eu).1,z11 (by rw [h.lfr];exact hl),if_neg (Ne.symm e)];exact h.hfr hk
   ·rw [(h2 eu).1];exact h.hfr hk
 ·intro k hk
  by_cases e:k=l
  ·subst e;rw [z0n] at hk ⊢
   by_cases ev:v=[]
   ·rw [(h3 ev).1,z11 (by rw [h.lbk];exact hl),if_pos rfl,ev,List.append_nil]
   ·rw [(h4 ev).1,h.hbk (by rw [hr];simp),hr,zd7];obtain ⟨a,v',rfl⟩:=List.exists_cons_of_ne_nil ev;rw [zd7];rfl
  ·rw [z02 _ _ e] at hk ⊢
   by_cases ev:v=[]
   ·rw [(h3 ev).1,z11 (by rw [h.lbk];exact hl),if_neg (Ne.symm e)];exact h.hbk hk
   ·rw [(h4 ev).1];exact h.hbk hk
 ·intro k x hx;obtain ⟨hne,hx'⟩:=mem hx
  by_cases e:k=l
  ·subst e;rw [z0n] at hx ⊢;rw [zkQ hx hnd]
   by_cases ev:v=[]
   ·rw [(h3 ev).2,if_neg (by rw [ev];show ¬ (-1:Int)=_;omega),h.hah hx',hr]
   ·rw [(h4 ev).2]
    rcases vfacts with e | ⟨m,hm,em⟩
    ·exact absurd e ev
    ·have hm64:m<64:=h.rng (l:=k) (by rw [hr];exact List.mem_append_right _ (List.mem_cons_of_mem _ hm));rw [em,Int.toNat_natCast,z11 (by rw [h.lah];exact hm64)]
     by_cases e5:m=x
     ·rw [if_pos e5,if_pos (by omega)]
     ·rw [if_neg e5,if_neg (by omega),h.hah hx',hr]
  ·rw [z02 _ _ e];rw [← h.hah hx']
   by_cases ev:v=[]
   ·rw [(h3 ev).2]
   ·rw [(h4 ev).2]
    rcases vfacts with e6 | ⟨m,hm,em⟩
    ·exact absurd e6 ev
    ·have hml:m∈R l:=by rw [hr];exact List.mem_append_right _ (List.mem_cons_of_mem _ hm)
     rw [em,Int.toNat_natCast,z11 (by rw [h.lah];exact h.rng hml),if_neg];rintro rfl;exact e (h.one hx' hml)
 ·intro k x hx;obtain ⟨hne,hx'⟩:=mem hx
  by_cases e:k=l
  ·subst e;rw [z0n] at hx ⊢;rw [zkM hx hnd]
   by_cases eu:u=[]
   ·rw [(h1 eu).2,if_neg (by rw [eu];show ¬ (-1:Int)=_;omega),h.haf hx',hr]
   ·rw [(h2 eu).2]
    rcases ufacts with e | ⟨m,hm,em⟩
    ·exact absurd e eu
    ·have hm64:m<64:=h.rng (l:=k) (by rw [hr];exact List.mem_append_left _ hm);rw [em,Int.toNat_natCast,z11 (by rw [h.laf];exact hm64)]
     by_cases e5:m=x
     ·rw [if_pos e5,if_pos (by omega)]
     ·rw [if_neg e5,if_neg (by omega),h.haf hx',hr]
  ·rw [z02 _ _ e];rw [← h.haf hx']
   by_cases eu:u=[]
   ·rw [(h1 eu).2]
   ·rw [(h2 eu).2]
    rcases ufacts with e6 | ⟨m,hm,em⟩
    ·exact absurd e6 eu
    ·have hml:m∈R l:=by rw [hr];exact List.mem_append_left _ hm
     rw [em,Int.toNat_natCast,z11 (by rw [h.laf];exact h.rng hml),if_neg];rintro rfl;exact e (h.one hx' hml)
 ·intro k x hx;obtain ⟨hne,hx'⟩:=mem hx;rw [z11 (by rw [h.llv];exact ht),if_neg (Ne.symm hne)];exact h.hlv hx'
 ·intro x hx hno';rw [z11 (by rw [h.llv];exact ht)]
  by_cases e:t=x
  ·rw [if_pos e]
  ·rw [if_neg e];refine h.hlv0 hx fun k hk=>hno' k ?_
   by_cases e2:k=l
   ·subst e2;rw [z0n];rw [hr] at hk
    rcases List.mem_append.1 hk with hk | hk
    ·exact List.mem_append_left _ hk
    ·exact List.mem_append_right _ ((List.mem_cons.1 hk).resolve_left (Ne.symm e))
   ·rw [z02 _ _ e2];exact hk
theorem Rep.none:Rep (fun _=>[]) 0 (List.replicate 32 0) (List.replicate 32 0) (List.replicate 64 0) (List.replicate 64 0) (List.replicate 64 0):=by
 refine ⟨by simp,by simp,by simp,by simp,by simp,fun h=>(by cases h),fun h=>(by cases h),fun _=>List.nodup_nil,fun h=>(by cases h),fun _=>by simp,by decide,fun h=>absurd rfl h,fun h=>absurd rfl h,fun h=>(by cases h),fun h=>(by cases h),fun h=>(by cases h),fun {t} ht _=>?_⟩;show (List.replicate 64 (0:Int)).getD t 0=0;rw [List.getD_eq_getElem?_getD,List.getElem?_replicate,if_pos ht];rfl
def z1H (R:Nat→List Nat) (t:Nat):Option Nat:=(List.range 32).find? fun l=>decide (t∈R l)
def z9N (R:Nat→List Nat) (t l:Nat):Nat→List Nat:=if z1H R t=none∧t<64∧l<32 then up R l (R l++[t]) else R
def z5F (R:Nat→List Nat) (t:Nat):Nat→List Nat:=match z1H R t with
 | none=>R
 | some l=>up R l ((R l).erase t)
def z6e (R:Nat→List Nat) (t:Nat):Nat→List Nat:=match z1H R t with
 | none=>R
 | some l=>up R l ((R l).erase t++[t])
def z6b (R:Nat→List Nat) (t l:Nat):Nat→List Nat:=match z1H R t with
 | none=>R
 | some k=>if k=l∨¬ l<32 then R else up (up R k ((R k).erase t)) l (R l++[t])
def z0h (R:Nat→List Nat):Option Nat:=match (List.range 32).find? fun l=>decide (R l≠[]) with
 | none=>none
 | some l=>(R l).head?
def low (n:Nat):Nat:=((List.range 32).find? fun i=>n.testBit i).getD 32
theorem z26 {p:Nat→Bool} {l:Nat}:∀ {n:Nat} (_:l<n) (_:p l=true) (_:∀ k,k<l→p k=false),(List.range n).find? p=some l
 | 0,h,_,_=>absurd h (by omega)
 | n+1,h,hp,hb=>by
  rw [List.range_succ,List.find?_append]
  by_cases e:l=n
  ·subst e;have:(List.range l).find? p=none:=by rw [List.find?_eq_none];intro x hx;rw [hb x (List.mem_range.1 hx)];simp
   rw [this];simp [hp]
  ·rw [z26 (n:=n) (by omega) hp hb];rfl
theorem z3z {p:Nat→Bool} {n:Nat} (h:∀ k,k<n→p k=false):(List.range n).find? p=none:=by
 rw [List.find?_eq_none];intro x hx;rw [h x (List.mem_range.1 hx)];simp
theorem z0m {p:Nat→Bool} {n l:Nat} (h:(List.range n).find? p=some l):l<n∧p l=true∧∀ k,k<l→p k=false:=by
 induction n with
 | zero=>simp at h
 | succ n ih =>
  rw [List.range_succ,List.find?_append] at h
  cases e:(List.range n).find? p with
  | some k =>
   rw [e] at h;simp at h;subst h;obtain ⟨h1,h2,h3⟩:=ih e;exact ⟨by omega,h2,h3⟩
  | none =>
   rw [e] at h
   by_cases hp:p n=true
   ·simp [hp] at h;subst h;rw [List.find?_eq_none] at e;exact ⟨by omega,hp,fun k hk=>by have:=e k (List.mem_range.2 hk);simpa using this⟩
   ·simp [hp] at h
section
variable {R:Nat→List Nat} {n:Nat} {fr bk ah af lv:List Int}
theorem zfN (h:Rep R n fr bk ah af lv) {t l:Nat} (ht:t∈R l):z1H R t=some l :=
 z26 (h.out ht) (decide_eq_true ht) fun k hk=>decide_eq_false fun hx=>by have:=h.one ht hx;omega
theorem z1a {t l:Nat} (h:z1H R t=some l):t∈R l∧l<32:=by
 obtain ⟨h1,h2,_⟩:=z0m h;exact ⟨of_decide_eq_true h2,h1⟩
theorem zhN (h:Rep R n fr bk ah af lv) {t:Nat} (hn:z1H R t=none) (l:Nat):t ∉ R l:=fun hx=>by rw [zfN h hx] at hn;cases hn
theorem zfM (h:Rep R n fr bk ah af lv) {t:Nat} (ht:t<64):ag lv t=match z1H R t with
  | none=>0
  | some l=>(l:Int)+1:=by
 cases e:z1H R t with
 | none=>exact h.hlv0 ht (zhN h e)
 | some l=>exact h.hlv (z1a e).1
theorem za4 {u v:List Nat} {t:Nat} (h:t ∉ u):(u++t::v).erase t=u++v:=by
 rw [List.erase_append_right _ h,List.erase_cons_head]
end
structure z4x (R:Nat→List Nat):Prop where
 rng:∀ {l t},t∈R l→t<64
 out:∀ {l t},t∈R l→l<32
 nd:∀ l,(R l).Nodup
 one:∀ {l l' t},t∈R l→t∈R l'→l=l'
theorem Rep.ok {R n fr bk ah af lv} (h:Rep R n fr bk ah af lv):z4x R:=⟨h.rng,h.out,h.nd,h.one⟩
theorem z4x.none:z4x fun _=>[]:=⟨fun h=>(by cases h),fun h=>(by cases h),fun _=>List.nodup_nil,fun h=>(by cases h)⟩
section
variable {R:Nat→List Nat}
theorem z61 {l k:Nat} {q:List Nat} {x:Nat}:x∈up R l q k↔(k=l∧x∈q)∨(k≠l∧x∈R k):=by
 unfold up;split
 ·rename_i h;simp [h]
 ·rename_i h;simp [h]
theorem z9k {t:Nat} (h:z4x R) (hn:z1H R t=.none) (l:Nat):t ∉ R l:=fun hx=>by
 have:z1H R t=some l:=z26 (h.out hx) (decide_eq_true hx) fun k hk=>decide_eq_false fun hy=>by have:=h.one hx hy;omega
 rw [this] at hn;cases hn
theorem z4x.up_add (h:z4x R) {t l:Nat} (ht:t<64) (hl:l<32) (hno:∀ k,t ∉ R k):z4x (up R l (R l++[t])):=by
 have mem:∀ {k x},x∈up R l (R l++[t]) k→(x=t∧k=l)∨(x≠t∧x∈R k):=by
  intro k x hx
  rcases z61.1 hx with ⟨rfl,hx⟩ | ⟨_,hy⟩
  ·rw [List.mem_append,List.mem_singleton] at hx
   by_cases e:x=t
   ·exact .inl ⟨e,rfl⟩
   ·exact .inr ⟨e,hx.resolve_right e⟩
  ·exact .inr ⟨fun e=>hno k (e ▸ hy),hy⟩
 refine ⟨fun hx=>?_,fun hx=>?_,fun k=>?_,fun hx hy=>?_⟩
 ·rcases mem hx with ⟨rfl,_⟩ | ⟨_,hx⟩
  ·exact ht
  ·exact h.rng hx
 ·rcases mem hx with ⟨_,rfl⟩ | ⟨_,hx⟩
  ·exact hl
  ·exact h.out hx
 ·by_cases e:k=l
  ·subst e;rw [z0n,List.nodup_append];exact ⟨h.nd k,by simp,fun a ha b hb=>by rw [List.mem_singleton] at hb;subst hb;rintro rfl;exact hno k ha⟩
  ·rw [z02 _ _ e];exact h.nd k
 ·rcases mem hx with ⟨rfl,e1⟩ | ⟨n1,hx⟩<;>rcases mem hy with ⟨e2,e3⟩ | ⟨n2,hy⟩
  ·omega
  ·exact absurd rfl n2
  ·exact absurd e2 n1
  ·exact h.one hx hy
theorem z4x.up_cut (h:z4x R) (t l:Nat):z4x (up R l ((R l).erase t)):=by
 have mem:∀ {k x},x∈up R l ((R l).erase t) k→x∈R k:=by
  intro k x hx
  rcases z61.1 hx with ⟨rfl,hx⟩ | ⟨_,hx⟩
  ·exact List.mem_of_mem_erase hx
  ·exact hx
 refine ⟨fun hx=>h.rng (mem hx),fun hx=>h.out (mem hx),fun k=>?_,fun hx hy=>h.one (mem hx) (mem hy)⟩
 by_cases e:k=l
 ·subst e;rw [z0n];exact (h.nd k).erase t
 ·rw [z02 _ _ e];exact h.nd k
theorem z31 (h:z4x R) {t l:Nat} (ht:t∈R l) (k:Nat):t ∉ up R l ((R l).erase t) k:=fun hx=>by
 rcases z61.1 hx with ⟨rfl,hx⟩ | ⟨e,hx⟩
 ·exact (List.Nodup.not_mem_erase (h.nd k)) hx
 ·exact e (h.one hx ht)
theorem z4x.put (h:z4x R) (t l:Nat):z4x (z9N R t l):=by
 unfold z9N;split
 ·rename_i e;exact h.up_add e.2.1 e.2.2 (z9k h e.1)
 ·exact h
theorem zie {t l k x:Nat} (hx:x∈z9N R t l k):x=t∨x∈R k:=by
 unfold z9N at hx;split at hx
 ·rcases z61.1 hx with ⟨rfl,hx⟩ | ⟨_,hx⟩
  ·rw [List.mem_append,List.mem_singleton] at hx;exact hx.symm
  ·exact .inr hx
 ·exact .inr hx
theorem z7D {t:Nat} (e:z1H R t=.none):z5F R t=R:=by unfold z5F;rw [e]
theorem z7E {t l:Nat} (e:z1H R t=some l):z5F R t=up R l ((R l).erase t):=by unfold z5F;rw [e]
theorem z5O {t:Nat} (e:z1H R t=.none):z6e R t=R:=by unfold z6e;rw [e]
theorem z5P {t l:Nat} (e:z1H R t=some l):z6e R t=up R l ((R l).erase t++[t]):=by unfold z6e;rw [e]
theorem z5w {t l:Nat} (e:z1H R t=.none):z6b R t l=R:=by unfold z6b;rw [e]
theorem z45 {t l k:Nat} (e:z1H R t=some k):z6b R t l=if k=l∨¬ l<32 then R else up (up R k ((R k).erase t)) l (R l++[t]):=by unfold z6b;rw [e]
theorem z4x.rem (h:z4x R) (t:Nat):z4x (z5F R t):=by
 cases e:z1H R t with
 | none=>rw [z7D e];exact h
 | some l=>rw [z7E e];exact h.up_cut t _
theorem zdm (h:z4x R) {t k x:Nat} (hx:x∈z5F R t k):x≠t∧x∈R k:=by
 cases e:z1H R t with
 | none=>rw [z7D e] at hx;exact ⟨by rintro rfl;exact z9k h e k hx,hx⟩
 | some l =>
  rw [z7E e] at hx;refine ⟨by rintro rfl;exact z31 h (z1a e).1 k hx,?_⟩
  rcases z61.1 hx with ⟨rfl,hx⟩ | ⟨_,hx⟩
  ·exact List.mem_of_mem_erase hx
  ·exact hx
theorem z4x.turn (h:z4x R) (t:Nat):z4x (z6e R t):=by
 cases e:z1H R t with
 | none=>rw [z5O e];exact h
 | some l =>
  rw [z5P e];have hm:=z1a e;have h2:=(h.up_cut t l).up_add (t:=t) (l:=l) (h.rng hm.1) hm.2 (z31 h hm.1);have e2:up (up R l ((R l).erase t)) l (up R l ((R l).erase t) l++[t])=up R l ((R l).erase t++[t]):=by
   funext k;unfold up;split<;>simp
  rw [e2] at h2;exact h2
theorem zgL {t k x:Nat} (hx:x∈z6e R t k):∃ k,x∈R k:=by
 cases e:z1H R t with
 | none=>rw [z5O e] at hx;exact ⟨k,hx⟩
 | some l =>
  rw [z5P e] at hx
  rcases z61.1 hx with ⟨rfl,hx⟩ | ⟨_,hx⟩
  ·rw [List.mem_append,List.mem_singleton] at hx
   rcases hx with hx | rfl
   ·exact ⟨_,List.mem_of_mem_erase hx⟩
   ·exact ⟨_,(z1a e).1⟩
  ·exact ⟨k,hx⟩
theorem z4x.move (h:z4x R) (t l:Nat):z4x (z6b R t l):=by
 cases e:z1H R t with
 | none=>rw [z5w e];exact h
 | some k =>
  rw [z45 e]
  split
  ·exact h
  ·rename_i hn
   have hm:=z1a e;have h2:=(h.up_cut t k).up_add (t:=t) (l:=l) (h.rng hm.1) (by omega) (z31 h hm.1);rw [z02 (k:=l) _ _ (by omega)] at h2;exact h2
theorem zfT {t l k x:Nat} (hx:x∈z6b R t l k):∃ k,x∈R k:=by
 cases e:z1H R t with
 | none=>rw [z5w e] at hx;exact ⟨k,hx⟩
 | some j =>
  rw [z45 e] at hx
  split at hx
  ·exact ⟨k,hx⟩
  ·rcases z61.1 hx with ⟨rfl,hx⟩ | ⟨_,hx⟩
   ·rw [List.mem_append,List.mem_singleton] at hx
    rcases hx with hx | rfl
    ·exact ⟨_,hx⟩
    ·exact ⟨_,(z1a e).1⟩
   ·rcases z61.1 hx with ⟨rfl,hx⟩ | ⟨_,hx⟩
    ·exact ⟨_,List.mem_of_mem_erase hx⟩
    ·exact ⟨_,hx⟩
theorem z0q {t:Nat} (h:z0h R=some t):∃ l,t∈R l:=by
 unfold z0h at h;split at h
 ·cases h
 ·rename_i l e;exact ⟨l,List.mem_of_mem_head? h⟩
end
end Go.Rq
namespace Go.Au
structure Ev where
 k:Int
 cy:Int
 co:Int
 a:Nat
 b:Nat
 v:Nat
structure Tk where
 st:Int
 late:Int
 on:Nat
 job:Nat
 lev:Int
structure Du where
 k:Int
 a:Nat
 b:Nat
deriving DecidableEq
structure Au where
 seen:Int
 last:Ev
 due:Du
 ts:List Tk
 ow:List Int
 pn:List Bool
 isr:Int
 run:Int
def tk0:Tk:=⟨0,0,0,0,0⟩
def ev0:Ev:=⟨0,0,0,0,0,0⟩
abbrev du0:Du:=⟨0,0,0⟩
def au0:Au:=⟨0,ev0,du0,List.replicate 64 tk0,List.replicate 32 0,List.replicate 16 false,0,0⟩
def win (n:Nat) (r:Nat):Bool :=
 match r with
 | 1=>true
 | 8=>decide (n<64∨n=255)
 | 9=>decide (n=0∨32≤n∧n<160)
 | 12=>decide (1≤n∧n≤255)
 | 2=>decide (n≤1)
 | 3=>decide (n≤15)
 | 4=>decide (n≤31)
 | 10=>decide (n≤31)
 | 5=>decide (n≤63)
 | 6=>decide (n≤79)
 | 7=>decide (n≤80)
 | 11=>decide (n≤255)
 | 13=>decide (n≤16)
 | 14=>decide (n≤38)
 | _=>decide (n≤0)
def shp (k:Nat):Nat×Nat×Nat :=
 match k with
 | 1=>(3,2,0)
 | 2=>(3,6,1)
 | 3=>(3,0,0)
 | 4=>(3,0,0)
 | 5=>(8,8,0)
 | 6=>(5,0,1)
 | 7=>(5,0,12)
 | 8=>(5,0,1)
 | 9=>(5,9,0)
 | 10=>(5,2,0)
 | 11=>(5,10,0)
 | 12=>(5,4,0)
 | 13=>(5,4,0)
 | 14=>(7,4,11)
 | 15=>(5,4,11)
 | 16=>(6,4,1)
 | 17=>(6,4,1)
 | 18=>(4,0,0)
 | 19=>(6,4,1)
 | 20=>(3,6,1)
 | 21=>(6,13,0)
 | 22=>(5,0,0)
 | 23=>(7,13,14)
 | _=>(0,0,0)
def okN (k a b v:Nat):Bool:=win a (shp k).1 && win b (shp k).2.1 && win v (shp k).2.2 && !(decide (k=5) && decide (a=b))
def okE (e:Ev):Bool:=decide (1≤e.k∧e.k≤24) && okN e.k.toNat e.a e.b e.v
def tkg (l:List Tk) (k:Nat):Tk:=l.getD k tk0
def owg (l:List Int) (k:Nat):Int:=l.getD k 0
def z4y (A:Au) (x:Nat):Tk:=tkg A.ts x
def zcz (A:Au) (x:Nat):Bool :=
 if x<64 then decide (A.isr=0) && decide (A.run=(x:Int)+1) && decide ((z4y A x).st=1)
 else if x<80 then decide (A.isr=(x:Int)-63)
 else decide (A.last.k=18)
def znj (y:Nat):Bool:=decide (32≤y∧y<64)
def z3O (A:Au) (y:Nat):Int:=owg A.ow y
def zjn (A:Au):Bool:=A.ts.all fun t=>decide (t.st≠1)
def zob (A:Au) (k a b v:Nat) (had:Bool):Bool :=
 match k with
 | 1=>A.pn.getD a false==decide (b=1)
 | 2=>zcz A b
 | 20=>zcz A b
 | 3=>decide (A.isr=0) && A.pn.getD a false
 | 4=>decide (A.isr=(a:Int)+1)
 | 5=>decide (A.isr=0) && decide (A.run=if b=255 then 0 else (b:Int)+1) && (if a=255 then zjn A else decide ((z4y A a).st=1))
 | 6=>decide ((z4y A a).st=0) && decide (v=((z4y A a).job+1)%4294967296)
 | 7=>decide ((z4y A a).st≠0∧(z4y A a).st≠3) && decide ((v:Int)=min ((z4y A a).late+1) 255)
 | 8=>zcz A a && decide (v=(z4y A a).job)
 | 9=>zcz A a && (!znj b || decide (z3O A (b-32)≠0) && decide (z3O A (b-32)≠(a:Int)+1))
 | 10=>decide ((z4y A a).st=2) && (if (z4y A a).on=0 then decide (b=0) else !znj (z4y A a).on || decide (b=1) && decide (z3O A ((z4y A a).on-32)=0))
 | 11=>decide ((z4y A a).lev≠(b:Int)+1)
 | 12=>decide (z3O A b=0) && (had || zcz A a)
 | 13=>decide (z3O A b=(a:Int)+1) && (decide ((z4y A a).st=3) || zcz A a)
 | 14=>zcz A a
 | 15=>zcz A a
 | 19=>zcz A a
 | 23=>zcz A a
 | 16=>decide (a<64∧(z4y A a).st=2∧(z4y A a).on=96+b) || zcz A a
 | 17=>decide (a<64∧(z4y A a).st=2∧(z4y A a).on=128+b) || zcz A a
 | 21=>zcz A a
 | 22=>zcz A a
 | _=>true
def setT (A:Au) (x:Nat) (t:Tk):Au:={ A with ts:=A.ts.set x t }
def znq (A:Au) (k a b v:Nat):Au :=
 match k with
 | 1=>{ A with pn:=A.pn.set a true }
 | 3=>{ A with pn:=A.pn.set a false,isr:=(a:Int)+1 }
 | 4=>{ A with isr:=0 }
 | 5=>{ A with run:=if a=255 then 0 else (a:Int)+1 }
 | 6=>setT A a { z4y A a with st:=1,job:=v,late:=max ((z4y A a).late-1) 0 }
 | 7=>setT A a { z4y A a with late:=v }
 | 8=>{ setT A a { z4y A a with st:=0 } with due:=if (z4y A a).late > 0 then ⟨6,a,0⟩ else A.due }
 | 9=>setT A a { z4y A a with st:=2,on:=b }
 | 10=>{ setT A a { z4y A a with st:=1 } with due:=if znj (z4y A a).on then ⟨12,a,(z4y A a).on-32⟩ else A.due }
 | 11=>setT A a { z4y A a with lev:=(b:Int)+1 }
 | 12=>{ A with ow:=A.ow.set b ((a:Int)+1) }
 | 13=>{ A with ow:=A.ow.set b 0 }
 | 21=>if a<64 then setT A a { z4y A a with st:=3 } else { A with due:=⟨4,a-64,0⟩ }
 | 22=>setT A a { z4y A a with st:=3 }
 | _=>A
def znZ (e:Ev):Du:=⟨e.k,e.a,e.b⟩
def zlU (A:Au) (e:Ev):Bool:=okE e && decide (A.last.k≠24) && decide (A.last.co≤e.co) && decide (A.last.cy≤e.cy) && (decide (A.due=du0) || decide (A.due=znZ e))
def zm5 (A:Au) (e:Ev):Bool:=zlU A e && zob { A with due:=du0 } e.k.toNat e.a e.b e.v (decide (A.due=znZ e))
def znJ (A:Au) (e:Ev):Au:={ znq { A with due:=du0 } e.k.toNat e.a e.b e.v with last:=e,seen:=A.seen+1 }
def nxt (A:Au) (e:Ev):Option Au:=if zm5 A e then some (znJ A e) else none
def chk (A:Au):List Ev→Option Nat
 | []=>none
 | e::l=>match nxt A e with
  | none=>some 0
  | some B=>(chk B l).map (· + 1)
structure AOk (A:Au):Prop where
 lt:A.ts.length=64
 lo:A.ow.length=32
 lp:A.pn.length=16
 st:∀ t∈A.ts,0≤t.st∧t.st≤3
 late:∀ t∈A.ts,0≤t.late∧t.late≤255
 on:∀ t∈A.ts,t.on<160
 job:∀ t∈A.ts,t.job<4294967296
 lev:∀ t∈A.ts,0≤t.lev∧t.lev≤32
 own:∀ x∈A.ow,0≤x∧x≤64
 isr:0≤A.isr∧A.isr≤16
 run:0≤A.run∧A.run≤64
 co:0≤A.last.co∧A.last.co<18446744073709551616
 cy:0≤A.last.cy∧A.last.cy<18446744073709551616
 dk:0≤A.due.k∧A.due.k≤24
 da:A.due.a<256
 db:A.due.b<256
 dz:A.due.k=0→A.due=du0
end Go.Au
namespace Go.Dl
abbrev Ck:=Int×Int
def z0H:Int→List Ck→List Ck
 | _,[]=>[]
 | acc,x::r=>(x.1,x.2-acc)::z0H x.2 r
def z41 (x:Ck):List Ck→List Ck
 | []=>[x]
 | y::r=>if y.2≤x.2 then y::z41 x r else x::y::r
def pre (S:List Ck) (k:Nat):Int:=if k=0 then 0 else (S.getD (k-1) (0,0)).2
structure SOk (S:List Ck):Prop where
 up:S.Pairwise fun a b=>a.2≤b.2
 nd:(S.map Prod.fst).Nodup
 id:∀ x∈S,0≤x.1∧x.1<256
 lf:∀ x∈S,1≤x.2∧x.2<4294967296
theorem z1o (acc:Int) (S:List Ck):(z0H acc S).length=S.length:=by
 induction S generalizing acc with
 | nil=>rfl
 | cons x r ih=>simp [z0H,ih]
theorem z37 (acc:Int) (A B:List Ck):z0H acc (A++B)=z0H acc A++z0H ((A.map Prod.snd).getLastD acc) B:=by
 induction A generalizing acc with
 | nil=>rfl
 | cons x r ih =>
  rw [List.cons_append,z0H,z0H,ih,List.cons_append]
  congr 2
  cases r with
  | nil=>rfl
  | cons y r'=>simp [List.getLastD]
theorem z6s (S:List Ck) (k:Nat) (hk:k≤S.length):((S.take k).map Prod.snd).getLastD 0=pre S k:=by
 unfold pre
 split
 ·rename_i h;subst h;rfl
 ·rename_i h
  obtain ⟨m,rfl⟩:∃ m,k=m+1:=⟨k-1,by omega⟩;rw [List.take_succ_eq_append_getElem (by omega),List.map_append];simp [List.getD,show m<S.length by omega]
theorem z8d (S:List Ck) (k:Nat) (hk:k≤S.length):z0H 0 S=z0H 0 (S.take k)++z0H (pre S k) (S.drop k):=by
 conv=>lhs;rw [← List.take_append_drop k S]
 rw [z37,z6s S k hk]
theorem z6M (S:List Ck) (k:Nat) (hk:k≤S.length):(z0H 0 S).take k=z0H 0 (S.take k):=by
 rw [z8d S k hk,List.take_append_of_le_length (by rw [z1o,List.length_take];omega),List.take_of_length_le (by rw [z1o,List.length_take];omega)]
theorem z6L (S:List Ck) (k:Nat) (hk:k≤S.length):(z0H 0 S).drop k=z0H (pre S k) (S.drop k):=by
 rw [z8d S k hk,List.drop_append_of_le_length (by rw [z1o,List.length_take];omega),List.drop_of_length_le (by rw [z1o,List.length_take];omega),List.nil_append]
theorem z6j (S:List Ck) (k:Nat) (hk:k<S.length):(z0H 0 S).getD k (0,0)=((S.getD k (0,0)).1,(S.getD k (0,0)).2-pre S k):=by
 have h1:(z0H 0 S)[k]?=((z0H 0 S).drop k)[0]?:=by rw [List.getElem?_drop];rfl
 rw [List.getD_eq_getElem?_getD,h1,z6L S k (by omega),List.drop_eq_getElem_cons hk];simp [z0H,List.getD,hk]
theorem z4R (S:List Ck) (k:Nat):pre S (k+1)=(S.getD k (0,0)).2:=by simp [pre]
theorem z42 (x:Ck) (A B:List Ck) (ha:∀ y∈A,y.2≤x.2) (hb:∀ y,B.head?=some y→x.2<y.2):z41 x (A++B)=A++x::B:=by
 induction A with
 | nil =>
  cases B with
  | nil=>rfl
  | cons y r =>
   have:=hb y rfl;simp only [List.nil_append,z41];rw [if_neg (by omega)]
 | cons a A ih =>
  rw [List.cons_append,z41,if_pos (ha a (by simp)),ih (fun y hy=>ha y (by simp [hy]))]
  rfl
theorem zkT (S:List Ck) (id t:Int) (k:Nat) (hk:k<S.length) (h1:∀ x∈S.take k,x.2≤t) (h2:t<(S.getD k (0,0)).2) :
  z41 (id,t) S=S.take k++(id,t)::S.drop k∧z0H 0 (z41 (id,t) S)=(z0H 0 S).take k++(id,t-pre S k)::(((S.getD k (0,0)).1,(S.getD k (0,0)).2-t)::(z0H 0 S).drop (k+1)):=by
 have e0:S.drop k=S[k]::S.drop (k+1):=List.drop_eq_getElem_cons hk;have eg:S.getD k (0,0)=S[k]:=by simp [List.getD,hk]
 have e1:z41 (id,t) S=S.take k++(id,t)::S.drop k:=by
  conv=>lhs;rw [← List.take_append_drop k S]
  refine z42 (id,t) _ _ h1 fun y hy=>?_;rw [e0] at hy;simp only [List.head?_cons,Option.some.injEq] at hy;subst hy;rw [← eg];exact h2
 refine ⟨e1,?_⟩;rw [e1,z37,z6s S k (by omega),z6M S k (by omega),z6L S (k+1) (by omega),z4R,e0,eg]
 rfl
theorem zkS (S:List Ck) (id t:Int) (h1:∀ x∈S,x.2≤t):z41 (id,t) S=S++[(id,t)]∧z0H 0 (z41 (id,t) S)=z0H 0 S++[(id,t-pre S S.length)]:=by
 have e1:z41 (id,t) S=S++[(id,t)]:=by
  have:=z42 (id,t) S [] h1 (fun y hy=>by cases hy)
  rwa [List.append_nil] at this
 refine ⟨e1,?_⟩;have h2:=z6s S S.length (Nat.le_refl _);rw [List.take_length] at h2;rw [e1,z37,h2]
 rfl
theorem z4I (x:Ck) (S:List Ck):(z41 x S).Perm (x::S):=by
 induction S with
 | nil=>exact List.Perm.refl _
 | cons y r ih =>
  unfold z41
  split
  ·exact (ih.cons y).trans (List.Perm.swap x y r)
  ·exact List.Perm.refl _
theorem z8V {x y:Ck} {S:List Ck} (h:y∈z41 x S):y=x∨y∈S:=by
 have:=(z4I x S).mem_iff.1 h
 simpa using this
theorem zf7 {x:Ck} {S:List Ck} (h:S.Pairwise fun a b=>a.2≤b.2):(z41 x S).Pairwise fun a b=>a.2≤b.2:=by
 induction S with
 | nil=>simp [z41]
 | cons y r ih =>
  rw [List.pairwise_cons] at h;unfold z41
  split
  ·rename_i hle
   rw [List.pairwise_cons];refine ⟨fun z hz=>?_,ih h.2⟩
   rcases z8V hz with rfl | hz
   ·exact hle
   ·exact h.1 z hz
  ·rename_i hle
   rw [List.pairwise_cons,List.pairwise_cons];refine ⟨fun z hz=>?_,h⟩
   rcases List.mem_cons.1 hz with rfl | hz
   ·omega
   ·have:=h.1 z hz;omega
theorem zl9:SOk []:=⟨by simp,by simp,by simp,by simp⟩
def has (S:List Ck) (id:Int):Prop:=id∈S.map Prod.fst
instance (S:List Ck) (id:Int):Decidable (has S id):=inferInstanceAs (Decidable (_∈_))
theorem zla {S:List Ck} (h:SOk S) {id t:Int} (hi:0≤id∧id<256) (ht:1≤t∧t<4294967296) (hn:¬ has S id):SOk (z41 (id,t) S):=by
 refine ⟨zf7 h.up,?_,fun x hx=>?_,fun x hx=>?_⟩
 ·have hp:=(z4I (id,t) S).map Prod.fst;rw [hp.nodup_iff,List.map_cons,List.nodup_cons];exact ⟨hn,h.nd⟩
 ·rcases z8V hx with rfl | hx
  ·exact hi
  ·exact h.id x hx
 ·rcases z8V hx with rfl | hx
  ·exact ht
  ·exact h.lf x hx
def z33 (id:Int) (S:List Ck):List Ck:=S.filter fun x=>x.1 != id
theorem zcm {S:List Ck} (h:SOk S) (id:Int):SOk (z33 id S) :=
 ⟨h.up.filter _,h.nd.sublist ((List.filter_sublist).map _),fun x hx=>h.id x (List.mem_filter.1 hx).1,fun x hx=>h.lf x (List.mem_filter.1 hx).1⟩
theorem z6i {S:List Ck} {id:Int} (h:¬ has S id):z33 id S=S:=by
 unfold z33;rw [List.filter_eq_self];intro x hx;simp only [bne_iff_ne,ne_eq];intro e;exact h (List.mem_map.2 ⟨x,hx,e⟩)
def at_ (S:List Ck) (id:Int):Nat:=(S.map Prod.fst).idxOf id
theorem zh2 {S:List Ck} {id:Int} (h:has S id):at_ S id<S.length:=by
 have:=List.idxOf_lt_length_iff.2 h
 simpa [at_] using this
theorem zlA {S:List Ck} {id:Int} (h:has S id):(S.getD (at_ S id) (0,0)).1=id:=by
 have hk:=zh2 h;have h1:(S.map Prod.fst)[at_ S id]'(by simpa using hk)=id:=List.getElem_idxOf _;rw [List.getElem_map] at h1;simp only [List.getD,List.getElem?_eq_getElem hk,Option.getD_some];exact h1
theorem zh1 {S:List Ck} {id:Int} {k:Nat} (hk:k<S.length) (he:(S.getD k (0,0)).1=id) (hn:∀ x∈S.take k,x.1≠id):at_ S id=k:=by
 have e0:S=S.take k++S[k]::S.drop (k+1):=by simp
 have eg:S.getD k (0,0)=S[k]:=by simp [List.getD,hk]
 rw [eg] at he;unfold at_;have h1:S.map Prod.fst=(S.take k).map Prod.fst++id::(S.drop (k+1)).map Prod.fst:=by
  conv=>lhs;rw [e0]
  rw [List.map_append,List.map_cons,he]
 rw [h1,List.idxOf_append,if_neg (by intro h;obtain ⟨x,hx,hxe⟩:=List.mem_map.1 h;exact hn x hx hxe),List.idxOf_cons_self];simp;omega
theorem zlG {S:List Ck} (h:SOk S) {id:Int} (hi:has S id):z33 id S=S.eraseIdx (at_ S id):=by
 have hk:=zh2 hi;have e0:S=S.take (at_ S id)++S[at_ S id]::S.drop (at_ S id+1):=by simp
 have eg:S.getD (at_ S id) (0,0)=S[at_ S id]:=by simp [List.getD,hk]
 have hg:=zlA hi;rw [eg] at hg;rw [List.eraseIdx_eq_take_drop_succ];generalize hA:S.take (at_ S id)=A at *;generalize hB:S.drop (at_ S id+1)=B at *;generalize S[at_ S id]=x at *;have nd:=h.nd;rw [e0,List.map_append,List.map_cons,List.nodup_append] at nd;obtain ⟨nA,nB,hd⟩:=nd;rw [List.nodup_cons] at nB;unfold z33
 conv=>lhs;rw [e0]
 rw [List.filter_append,List.filter_cons_of_neg (by simp [hg]),List.filter_eq_self.2,List.filter_eq_self.2]
 ·intro y hy;simp only [bne_iff_ne,ne_eq];intro e;exact nB.1 (by rw [hg,← e];exact List.mem_map.2 ⟨y,hy,rfl⟩)
 ·intro y hy;simp only [bne_iff_ne,ne_eq];intro e;exact hd y.1 (List.mem_map.2 ⟨y,hy,rfl⟩) x.1 (by simp) (by rw [e,hg])
theorem zjT (S:List Ck) (k:Nat) (hk:k+1<S.length) :
  z0H 0 (S.eraseIdx k)=(z0H 0 S).take k++((S.getD (k+1) (0,0)).1,(S.getD (k+1) (0,0)).2-pre S k)::(z0H 0 S).drop (k+2):=by
 have e1:S.drop (k+1)=S[k+1]::S.drop (k+2):=List.drop_eq_getElem_cons hk;have eg:S.getD (k+1) (0,0)=S[k+1]:=by simp [List.getD,hk]
 rw [List.eraseIdx_eq_take_drop_succ,z37,z6s S k (by omega),z6M S k (by omega),z6L S (k+2) (by omega),z4R,e1,eg]
 rfl
theorem zbs (S:List Ck) (k:Nat) (hk:k<S.length) (he:S.length≤k+1):z0H 0 (S.eraseIdx k)=(z0H 0 S).take k:=by
 rw [List.eraseIdx_eq_take_drop_succ,List.drop_eq_nil_of_le he,List.append_nil,z6M S k (by omega)]
def dec (x:Ck):Ck:=(x.1,x.2-1)
def z2H (S:List Ck):List Int:=(S.filter fun x=>x.2==1).map Prod.fst
def z2X (S:List Ck):List Ck:=(S.filter fun x=>x.2 != 1).map dec
theorem ziD {S:List Ck} (h:SOk S):SOk (z2X S):=by
 unfold z2X;refine ⟨?_,?_,?_,?_⟩
 ·rw [List.pairwise_map];exact (h.up.filter _).imp_of_mem fun _ _ h=>by show _-1≤_-1;omega
 ·rw [List.map_map];exact h.nd.sublist ((List.filter_sublist).map _)
 ·intro x hx;obtain ⟨y,hy,rfl⟩:=List.mem_map.1 hx;exact h.id y (List.mem_filter.1 hy).1
 ·intro x hx;obtain ⟨y,hy,rfl⟩:=List.mem_map.1 hx;obtain ⟨h1,h2⟩:=List.mem_filter.1 hy;have h3:=h.lf y h1;have h4:y.2≠1:=by simpa using h2
  exact ⟨by show 1≤y.2-1;omega,by show y.2-1<_;omega⟩
theorem zhc (x:Ck) (r:List Ck):z0H 0 ((x::r).map dec)=(x.1,x.2-1)::z0H x.2 r:=by
 have h:∀ (r:List Ck) (a:Int),z0H (a-1) (r.map dec)=z0H a r:=by
  intro r
  induction r with
  | nil=>intro a;rfl
  | cons y r ih =>
   intro a;show (y.1,y.2-1-(a-1))::z0H (y.2-1) (r.map dec)=_;rw [ih,z0H]
   congr 2
   omega
 show (x.1,x.2-1-0)::z0H (x.2-1) (r.map dec)=_;rw [h]
 congr 2
 omega
theorem zbu {T:List Ck} (h:T.Pairwise fun a b=>a.2≤b.2) (h0:∀ x∈T,0≤x.2):T=(T.filter fun x=>x.2==0)++T.filter fun x=>x.2 != 0:=by
 induction T with
 | nil=>rfl
 | cons x r ih =>
  rw [List.pairwise_cons] at h
  by_cases hx:x.2=0
  ·rw [List.filter_cons_of_pos (by simp [hx]),List.filter_cons_of_neg (by simp [hx]),List.cons_append,← ih h.2 fun y hy=>h0 y (by simp [hy])]
  ·have h1:∀ y∈r,y.2≠0:=fun y hy=>by have:=h.1 y hy;have:=h0 x (by simp);omega
   rw [List.filter_cons_of_neg (by simp [hx]),List.filter_cons_of_pos (by simp [hx]),List.filter_eq_nil_iff.2 (fun y hy=>by simp [h1 y hy]),List.filter_eq_self.2 (fun y hy=>by simp [h1 y hy])]
   rfl
theorem ziJ (S:List Ck):((S.map dec).filter fun x=>x.2==0).map Prod.fst=z2H S∧((S.map dec).filter fun x=>x.2 != 0)=z2X S:=by
 constructor
 ·unfold z2H;rw [List.filter_map,List.map_map];have e:((fun x:Ck=>x.2==0) ∘ dec)=fun x=>x.2==1:=by
   funext x
   show (x.2-1==0)=(x.2==1);rw [Bool.eq_iff_iff];simp;omega
  rw [e];rfl
 ·unfold z2X;rw [List.filter_map];have e:((fun x:Ck=>x.2 != 0) ∘ dec)=fun x=>x.2 != 1:=by
   funext x
   show (x.2-1 != 0)=(x.2 != 1);rw [Bool.eq_iff_iff];simp;omega
  rw [e]
def z1M (S:List Ck) (id:Int):Int:=(S.countP fun x=>decide (id≤x.1):Nat)
end Go.Dl
