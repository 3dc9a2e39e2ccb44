/-
  Parts of the proof: Sep Law Open Auto Rec RegionB WaitB Ints RegionC RegionD Line ConfA CfOpen HistP HistA HistB HistC.
-/
import Derived.WalkKit
import Derived.ArgAppend
import Derived.Deep.Draws
import Derived.Laws.IdiomCopy
import Derived.Test.YtndjjndllfdklaaGreatDoorRows
import Derived.ProofKit
import Derived.OpenShut
import Derived.ShutString
import Derived.ChangeOld
import Derived.Below
import Derived.Deep.Slices
import Derived.Deep.QuietTactic
import Derived.OrdersHeld
import Derived.RegionTactic
import Derived.Test.YtndjjndllfdklaaGreatDoorProg
import Derived.BigQuiet
import Derived.WalkSpells
import Derived.StillTailTactics
import Derived.Shelf.Spec.TrailingZeros
import Derived.Deep.DeepCutAuto
import Derived.Deep.CutBlock
import Derived.Lib.Overlaps
import Derived.Lib.AppendZerosOnto
import Derived.Laws.Externs
import Derived.Shelf.Abstract
import Derived.Handy
import Derived.WalkMore
import Derived.IntWalk
import Derived.Deep.MidRow
set_option linter.unusedVariables false
set_option linter.unusedSimpArgs false
set_option maxHeartbeats 32000000
set_option maxRecDepth 100000
namespace Go
theorem zqS {α:Type} {a:α} {l:List α} {i:Nat}:(a::l)[i+1]?=l[i]? := rfl
theorem zqZ {α:Type} {a:α} {l:List α}:(a::l)[0]?=some a := rfl
theorem zqA {α:Type} {l:List α} {i:Nat} {a:α}:l.toArray.setIfInBounds i a=(l.set i a).toArray := List.setIfInBounds_toArray l i a
theorem zqP {α:Type} {a b:α} {l:List α}:(a::l).set 0 b=b::l := rfl
theorem zqQ {α:Type} {a b:α} {l:List α} {i:Nat}:(a::l).set (i+1) b=a::l.set i b := rfl
end Go
namespace Go.Rq
end Go.Rq
namespace Go.Dl
end Go.Dl
namespace Go.Lk
end Go.Lk
namespace Go.Au
end Go.Au
namespace Go.Vm
end Go.Vm
namespace Go.Hi
end Go.Hi
namespace Go.Sx
open Go.RowKit
theorem hid {p:Prop} (h:p):Hid p:=h
def Hp:Type:=Nat→Nat→Option Value
def HP:Type:=Hp→Prop
theorem HP.same {P Q:HP} (h:∀ x,P x↔Q x):P=Q:=funext fun x=>propext (h x)
def emp:HP:=fun h=>∀ b o,h b o=none
def star (P Q:HP):HP:=fun h=>∃ h1 h2:Hp,(∀ b o,h1 b o=none∨h2 b o=none)∧(∀ b o,h b o=(h1 b o).or (h2 b o))∧P h1∧Q h2
instance:Mul HP:=⟨star⟩
theorem star_comm (P Q:HP):P*Q=Q*P:=by
 have key:∀ P Q:HP, ∀ h,star P Q h→star Q P h:=fun P Q h ⟨h1,h2,hd,hu,p,q⟩ =>
  ⟨h2,h1,fun b o=>(hd b o).symm,fun b o=>by rw [hu];rcases hd b o with e | e<;>simp [e],q,p⟩
 exact HP.same fun h=>⟨key P Q h,key Q P h⟩
theorem star_assoc (P Q R:HP):P*Q*R=P*(Q*R):=by
 refine HP.same fun h=>⟨?_,?_⟩
 ·rintro ⟨h12,h3,hd,hu,⟨h1,h2,hd',hu',p,q⟩,r⟩;refine ⟨h1,fun b o=>(h2 b o).or (h3 b o),fun b o=>?_,fun b o=>?_,p,h2,h3,fun b o=>?_,fun _ _=>rfl,q,r⟩
  ·have:=hd b o;have:=hu' b o;have:=hd' b o
   cases e1:h1 b o<;>cases e2:h2 b o<;>cases e3:h3 b o<;>simp_all
  ·rw [hu,hu',Option.or_assoc]
  ·have:=hd b o;have:=hu' b o;have:=hd' b o
   cases e1:h1 b o<;>cases e2:h2 b o<;>cases e3:h3 b o<;>simp_all
 ·rintro ⟨h1,h23,hd,hu,p,h2,h3,hd',hu',q,r⟩;refine ⟨fun b o=>(h1 b o).or (h2 b o),h3,fun b o=>?_,fun b o=>?_,⟨h1,h2,fun b o=>?_,fun _ _=>rfl,p,q⟩,r⟩
  ·have:=hd b o;have:=hu' b o;have:=hd' b o
   cases e1:h1 b o<;>cases e2:h2 b o<;>cases e3:h3 b o<;>simp_all
  ·rw [hu,hu',Option.or_assoc]
  ·have:=hd b o;have:=hu' b o;have:=hd' b o
   cases e1:h1 b o<;>cases e2:h2 b o<;>cases e3:h3 b o<;>simp_all
instance : Std.Associative (α:=HP) (· * ·):=⟨star_assoc⟩
instance : Std.Commutative (α:=HP) (· * ·):=⟨star_comm⟩
theorem emp_star (P:HP):emp*P=P:=by
 refine HP.same fun h=>⟨?_,fun p=>⟨fun _ _=>none,h,fun _ _=>.inl rfl,fun _ _=>rfl,fun _ _=>rfl,p⟩⟩;rintro ⟨h1,h2,_,hu,e,p⟩;have:h=h2:=funext fun b=>funext fun o=>by rw [hu,e];rfl
 rwa [this]
theorem star_emp (P:HP):P*emp=P:=by rw [star_comm,emp_star]
def pts (b o:Nat) (xs:List Value):HP:=fun h=>∀ b' o',h b' o'=if b'=b∧o≤o' then xs[o'-o]? else none
theorem pts_nil (b o:Nat):pts b o []=emp:=HP.same fun h=>by simp [pts,emp]
theorem pts_append (b o:Nat) (xs ys:List Value):pts b o (xs++ys)=pts b o xs*pts b (o+xs.length) ys:=by
 refine HP.same fun h=>⟨fun p=>?_,?_⟩
 ·refine ⟨fun b' o'=>if b'=b∧o≤o' then xs[o'-o]? else none,fun b' o'=>if b'=b∧o+xs.length≤o' then ys[o'-(o+xs.length)]? else none,fun b' o'=>?_,fun b' o'=>?_,fun _ _=>rfl,fun _ _=>rfl⟩
  ·by_cases hb:b'=b
   ·by_cases h1:o+xs.length≤o'
    ·left;simp only [hb,true_and];split
     ·exact List.getElem?_eq_none (by omega)
     ·rfl
    ·right;simp [h1]
   ·left;simp [hb]
  ·rw [p]
   by_cases hb:b'=b
   ·subst hb
    by_cases h0:o≤o'
    ·by_cases h1:o+xs.length≤o'
     ·simp only [true_and,h0,h1,if_true];rw [List.getElem?_append_right (by omega),List.getElem?_eq_none (l:=xs) (by omega),Option.none_or]
      congr 1;omega
     ·simp only [true_and,h0,h1,if_true,if_false];rw [List.getElem?_append_left (by omega),Option.or_none]
    ·simp only [true_and,h0,if_false];rw [if_neg (by omega)];rfl
   ·simp [hb]
 ·rintro ⟨h1,h2,_,hu,p1,p2⟩ b' o';rw [hu,p1,p2]
  by_cases hb:b'=b
  ·subst hb
   by_cases h0:o≤o'
   ·by_cases h1:o+xs.length≤o'
    ·simp only [true_and,h0,h1,if_true];rw [List.getElem?_append_right (by omega),List.getElem?_eq_none (l:=xs) (by omega),Option.none_or]
     congr 1;omega
    ·simp only [true_and,h0,h1,if_true,if_false];rw [List.getElem?_append_left (by omega),Option.or_none]
   ·simp only [true_and,h0,if_false];rw [if_neg (by omega)];rfl
  ·simp [hb]
theorem pts_cons (b o:Nat) (x:Value) (xs:List Value):pts b o (x::xs)=pts b o [x]*pts b (o+1) xs:=pts_append b o [x] xs
def ex {α:Type} (f:α→HP):HP:=fun h=>∃ a,f a h
class Sat (w0:outParam World) (w:World) (P:outParam HP):Prop where
 below:Below w0.heap.size w0 w
 own:∃ h:Hp,P h∧∀ b o v,h b o=some v→w0.heap.size≤b∧w.cell? ⟨b,o,none⟩=some v∧w.frozen? ⟨b,o,none⟩=false
section
variable {w0 w:World} {P Q F:HP} {b o:Nat} {xs:List Value}
theorem Sat.perm (hs:Sat w0 w P) (e:P=Q):Sat w0 w Q:=e ▸ hs
theorem Sat.wk (hs:Sat w0 w (P*F)) (e:∀ h,P h→Q h):Sat w0 w (Q*F) :=
 ⟨hs.below,let ⟨h,⟨h1,h2,hd,hu,p,f⟩,k⟩:=hs.own; ⟨h,⟨h1,h2,hd,hu,e _ p,f⟩,k⟩⟩
theorem Sat.start (w:World):Sat w w emp:=⟨Below.refl _ _,fun _ _=>none,fun _ _=>rfl,fun _ _ _ h=>by cases h⟩
theorem Sat.drop (hs:Sat w0 w (P*F)):Sat w0 w F:=by
 obtain ⟨h,⟨h1,h2,hd,hu,p,f⟩,k⟩:=hs.own;refine ⟨hs.below,h2,f,fun b o v hv=>k b o v ?_⟩;rw [hu]
 rcases hd b o with e | e
 ·rw [e];exact hv
 ·rw [e] at hv;cases hv
theorem Sat.fst (hs:Sat w0 w (P*F)):Sat w0 w P:=(hs.perm (star_comm P F)).drop
theorem Sat.emp_in (hs:Sat w0 w F):Sat w0 w (emp*F):=hs.perm (emp_star F).symm
theorem Sat.size (hs:Sat w0 w P):w0.heap.size≤w.heap.size:=hs.below.size
theorem Sat.old (hs:Sat w0 w P) {a:Addr} (h:a.block<w0.heap.size):w.cell? a=w0.cell? a:=hs.below.cell h
theorem Sat.of_same {w':World} (hs:Sat w0 w P) (hh:w'.heap=w.heap) (ho:w'.os=w.os) (ht:w'.tape=w.tape) (hp:w'.output=w.output):Sat w0 w' P:=by
 obtain ⟨hb,h,p,k⟩:=hs;refine ⟨⟨ho.trans hb.os,ht.trans hb.tape,hp.trans hb.output,by rw [hh];exact hb.size,fun i hi=>by rw [hh];exact hb.block i hi⟩,h,p,fun b o v hv=>?_⟩;have:=k b o v hv;simp only [World.cell?,World.frozen?,hh] at this ⊢;exact this
theorem Sat.drew (hs:Sat w0 w P):Sat w0 w.drew P:=hs.of_same rfl rfl rfl rfl
theorem Sat.drewN (hs:Sat w0 w P) (n:Nat):Sat w0 (w.drewN n) P:=hs.of_same rfl rfl rfl rfl
theorem Sat.cell (hs:Sat w0 w (pts b o xs*F)) {j:Nat} {v:Value} (hj:xs[j]?=some v):w.cell? ⟨b,o+j,none⟩=some v:=by
 obtain ⟨_,h,⟨h1,h2,_,hu,p,_⟩,k⟩:=hs;refine (k b (o+j) v ?_).2.1;rw [hu,p,if_pos ⟨rfl,by omega⟩,show o+j-o=j by omega,hj];rfl
theorem Sat.frz (hs:Sat w0 w (pts b o xs*F)) {j:Nat} (hj:j<xs.length):w.frozen? ⟨b,o+j,none⟩=false:=by
 obtain ⟨_,h,⟨h1,h2,_,hu,p,_⟩,k⟩:=hs;refine (k b (o+j) xs[j] ?_).2.2;rw [hu,p,if_pos ⟨rfl,by omega⟩,show o+j-o=j by omega,List.getElem?_eq_getElem hj];rfl
theorem Sat.above (hs:Sat w0 w (pts b o xs*F)) (h0:0<xs.length):w0.heap.size≤b∧b<w.heap.size:=by
 have hc:=hs.cell (j:=0) (List.getElem?_eq_getElem h0);obtain ⟨_,h,⟨h1,h2,_,hu,p,_⟩,k⟩:=hs;refine ⟨(k b (o+0) xs[0] ?_).1,World.block_lt_of_cell? w _ hc⟩;rw [hu,p,if_pos ⟨rfl,by omega⟩,show o+0-o=0 by omega,List.getElem?_eq_getElem h0];rfl
theorem Sat.c0 {v:Value} (hs:Sat w0 w (pts b o (v::xs)*F)):w.cell? ⟨b,o,none⟩=some v:=hs.cell (j:=0) rfl
theorem Sat.f0 {v:Value} (hs:Sat w0 w (pts b o (v::xs)*F)):w.frozen? ⟨b,o,none⟩=false:=hs.frz (j:=0) (by simp)
theorem Sat.apart {ys:List Value} {b' o':Nat} (hs:Sat w0 w (pts b o xs*(pts b' o' ys*F))) {j j':Nat} (hj:j<xs.length) (hj':j'<ys.length):(⟨b,o+j,none⟩:Addr)≠⟨b',o'+j',none⟩:=by
 obtain ⟨_,h,⟨h1,h2,hd,hu,p,⟨h3,h4,hd',hu',q,_⟩⟩,k⟩:=hs;intro e;simp only [Addr.mk.injEq] at e;obtain ⟨rfl,e,_⟩:=e;have e1:h1 b (o+j)=some xs[j]:=by rw [p,if_pos ⟨rfl,by omega⟩,show o+j-o=j by omega,List.getElem?_eq_getElem hj]
 have e2:h2 b (o+j)=some ys[j']:=by rw [hu',q,if_pos ⟨rfl,by omega⟩,e,show o'+j'-o'=j' by omega,List.getElem?_eq_getElem hj'];rfl
 rcases hd b (o+j) with e3 | e3
 ·rw [e1] at e3;cases e3
 ·rw [e2] at e3;cases e3
theorem Sat.set (hs:Sat w0 w (pts b o xs*F)) {j:Nat} (hj:j<xs.length) (v:Value):Sat w0 (w.setCell ⟨b, o+j, none⟩ v) (pts b o (xs.set j v)*F) := by
  have hc := hs.cell (j := j) (List.getElem?_eq_getElem hj);have hab := hs.above (by omega);obtain ⟨hb, h, ⟨h1, h2, hd, hu, p, f⟩, k⟩ := hs;have e1:h1 b (o+j)=some xs[j] := by rw [p, if_pos ⟨rfl, by omega⟩, show o+j-o=j by omega, List.getElem?_eq_getElem hj]
  have e2 : h2 b (o + j) = none := by rcases hd b (o + j) with e | e; · rw [e1] at e; cases e
                                      · exact e
  refine ⟨hb.setCell (by simpa using hab.1) _, fun b' o' => if b'=b∧o'=o+j then some v else h b' o',
    ⟨fun b' o' => if b'=b∧o'=o+j then some v else h1 b' o', h2, fun b' o' => ?_, fun b' o' => ?_, fun b' o' => ?_, f⟩, fun b' o' u hv => ?_⟩
  · by_cases e:b'=b∧o'=o+j
    · obtain ⟨rfl, rfl⟩ := e; exact .inr e2
    · simp only [e, if_false]; exact hd b' o'
  · by_cases e:b'=b∧o'=o+j
    · simp [e]
    · simp only [e, if_false]; exact hu b' o'
  · by_cases e:b'=b∧o'=o+j
    · obtain ⟨rfl, rfl⟩ := e
      simp only [and_self, if_true];rw [if_pos ⟨trivial, by omega⟩, show o+j-o=j by omega, List.getElem?_set_self hj]
    · simp only [e, if_false]
      rw [p]
      by_cases hh:b'=b∧o≤o'
      · rw [if_pos hh, if_pos hh, List.getElem?_set_ne (by omega)]
      · rw [if_neg hh, if_neg hh]
  · by_cases e:b'=b∧o'=o+j
    · obtain ⟨rfl, rfl⟩ := e
      simp only [and_self, if_true, Option.some.injEq] at hv;subst hv;refine ⟨hab.1, World.cell?_setCell_same _ _ _ hc, ?_⟩;rw [World.frozen?_setCell];exact (k b' (o+j) xs[j] (by rw [hu, e1]; rfl)).2.2
    · simp only [e, if_false] at hv
      obtain ⟨k1, k2, k3⟩ := k b' o' u hv;refine ⟨k1, ?_, by rw [World.frozen?_setCell]; exact k3⟩;rw [World.cell?_setCell_other _ _ _ _ (by intro h; simp only [Addr.mk.injEq] at h; exact e ⟨h.1.symm, h.2.1.symm⟩)];exact k2
theorem Sat.set0 {u:Value} (hs:Sat w0 w (pts b o (u::xs)*F)) (v:Value):Sat w0 (w.setCell ⟨b,o,none⟩ v) (pts b o (v::xs)*F):=hs.set (j:=0) (by simp) v
theorem Sat.alloc (hs:Sat w0 w F) (c:Array Value) (t:TypeId):Sat w0 (w.alloc (.cells c t)) (pts w.heap.size 0 c.toList*F):=by
 obtain ⟨hb,h,p,k⟩:=hs;have old:∀ b o,w.heap.size≤b→h b o=none:=fun b o hbs=>by
  cases e:h b o with
  | none=>rfl
  | some v=>have:=World.block_lt_of_cell? w _ (k b o v e).2.1;simp at this;omega
 refine ⟨hb.alloc hb.size _,fun b' o'=>if b'=w.heap.size then c[o']? else h b' o',⟨fun b' o'=>if b'=w.heap.size then c[o']? else none,h,fun b' o'=>?_,fun b' o'=>?_,fun b' o'=>?_,p⟩,fun b' o' v hv=>?_⟩
 ·by_cases e:b'=w.heap.size
  ·right;exact old b' o' (by omega)
  ·left;simp [e]
 ·by_cases e:b'=w.heap.size
  ·simp only [e,if_true];rw [old _ _ (Nat.le_refl _),Option.or_none]
  ·simp [e]
 ·by_cases e:b'=w.heap.size
  ·simp [e]
  ·simp [e]
 ·by_cases e:b'=w.heap.size
  ·subst e;simp only [if_true] at hv;refine ⟨hb.size,?_,World.frozen?_alloc_new w c t o'⟩;rw [World.cell?_alloc_new];exact hv
  ·simp only [e,if_false] at hv;obtain ⟨k1,k2,k3⟩:=k b' o' v hv;exact ⟨k1,by rw [World.cell?_alloc_old _ _ _ e];exact k2,by rw [World.frozen?_alloc_old _ _ _ e];exact k3⟩
theorem Sat.setCells:∀ (vs:List Value) (w:World) (xs ys:List Value) (_:Sat w0 w (pts b o (xs++ys)*F)) (_:vs.length≤ys.length),
  Sat w0 (w.setCells b (o+xs.length) vs) (pts b o (xs++vs++ys.drop vs.length)*F)
 | [],w,xs,ys,hs,_=>by simpa [World.setCells] using hs
 | v::vs,w,xs,y::ys,hs,hl=>by
  have h1:=hs.set (j:=xs.length) (by simp) v;have h2:=Sat.setCells vs _ (xs++[v]) ys (h1.perm (by simp)) (by simpa using hl)
  simpa [World.setCells,Nat.add_assoc] using h2
end
def sliceP (k:Nat) (v:Value) (n:Nat) (xs:List Value):HP:=fun h =>
 (v=.slice none 0 0∧n=0∧xs=[]∧∀ b o,h b o=none) ∨
 ∃ g off cap sp,v=.slice (some ⟨g,off,none⟩) n cap∧n≤cap∧cap≤maxLen∧xs.length=n*k∧sp.length=(cap-n)*k∧pts g off (xs++sp) h
section
variable {w0 w:World} {P Q F:HP} {k:Nat} {v:Value} {n:Nat} {xs:List Value}
theorem Sat.slice_out (hs:Sat w0 w (sliceP k v n xs*F)):(v=.slice none 0 0∧n=0∧xs=[]∧Sat w0 w F) ∨
  ∃ g off cap sp,v=.slice (some ⟨g,off,none⟩) n cap∧n≤cap∧cap≤maxLen∧xs.length=n*k∧sp.length=(cap-n)*k∧Sat w0 w (pts g off (xs++sp)*F):=by
 have hd:=hs.drop;obtain ⟨hb,h,⟨h1,h2,hd',hu,p,f⟩,kk⟩:=hs
 rcases p with ⟨e1,e2,e3,_⟩ | ⟨g,off,cap,sp,e1,e2,e3,e4,e5,p⟩
 ·exact .inl ⟨e1,e2,e3,hd⟩
 ·exact .inr ⟨g,off,cap,sp,e1,e2,e3,e4,e5,hb,h,⟨h1,h2,hd',hu,p,f⟩,kk⟩
theorem Sat.slice_form (hs:Sat w0 w (sliceP k v n xs*F)):∃ a cap,v=.slice a n cap:=by
 rcases hs.slice_out with ⟨rfl,rfl,_,_⟩ | ⟨g,off,cap,sp,rfl,_⟩
 ·exact ⟨none,0,rfl⟩
 ·exact ⟨_,cap,rfl⟩
theorem Sat.slice_nil (k:Nat) (hs:Sat w0 w F):Sat w0 w (sliceP k (.slice none 0 0) 0 []*F):=hs.emp_in.wk fun _ e=>.inl ⟨rfl,rfl,rfl,e⟩
theorem Sat.slice_in {g off cap:Nat} {sp:List Value} (hs:Sat w0 w (pts g off (xs++sp)*F)) (h1:n≤cap) (h2:cap≤maxLen) (h3:xs.length=n*k) (h4:sp.length=(cap-n)*k) :
  Sat w0 w (sliceP k (.slice (some ⟨g,off,none⟩) n cap) n xs*F):=hs.wk fun _ p=>.inr ⟨g,off,cap,sp,rfl,h1,h2,h3,h4,p⟩
theorem size_setCells (b:Nat):∀ (vs:List Value) (o:Nat) (w:World),(w.setCells b o vs).heap.size=w.heap.size
 | [],_,_=>rfl
 | v::r,o,w=>by rw [World.setCells,size_setCells b r];simp
theorem append_sat {P:Program} (t ty e:TypeId) (i:TypeInfo) (z:Value) (size bytes:Nat) (ht:P.underlying t=some (.slice e)) (hi:P.info? e=some i) (hz:i.zero=some z)
    (hsize:i.size=size) (hby:i.bytes=bytes) (hzs:z.cells.size=size) (hs:Sat w0 w (sliceP size v n xs*F))
    (ad:Option Addr) (m c:Nat) (news:List Value) (hl:news.length=m*size) (had:ad=none→m=0) (hnews:∀ a, ad=some a→∀ j u, news[j]?=some u→w.cell? (a.add j)=some u) (h1:∀ u∈news, u.oneCell'=true)
    (h63:n+m≤maxLen) (hbytes:(n+m)*bytes≤140737488355328) :
    ∃ v' w', (Builtin.append_ #[t, t] ty #[v, .slice ad m c]).run P w=.ok v' w'∧Sat w0 w' (sliceP size v' (n+m) (xs++news)*F)∧w.heap.size≤w'.heap.size := by
  subst hsize;subst hby
  have hsmall:n+m≤9223372036854775807 := by simp only [maxLen] at h63; omega
  by_cases hm:m=0
  · subst hm
    have hn0:news=[] := List.eq_nil_of_length_eq_zero (by simpa using hl);subst hn0;refine ⟨v, w, ?_, by simpa using hs, Nat.le_refl _⟩
    rcases hs.slice_out with ⟨rfl, rfl, rfl, _⟩ | ⟨g, off, cap, sp, rfl, hc, _, hx, hsp, hs'⟩
    · cases ad<;>simp [Builtin.append_, run_underlying ht, sizeOf, typeInfo, hi, Builtin.lenOf, Builtin.firstCells, loadCells, loadCellsFrom]
    · cases ad<;>simp [Builtin.append_, run_underlying ht, sizeOf, typeInfo, hi, Builtin.lenOf, Builtin.firstCells, loadCells, loadCellsFrom, hc, storeCells]
  obtain ⟨a, rfl⟩:∃ a, ad=some a := by cases ad with | none => exact absurd (had rfl) hm | some a => exact ⟨a, rfl⟩
  have hnews' := hnews a rfl
  rcases hs.slice_out with ⟨rfl, rfl, rfl, hs'⟩ | ⟨g, off, cap, sp, rfl, hc, hcm, hx, hsp, hs'⟩
  · have hr := run_append_nil (P := P) w t ty e i z ht hi hz a m c news hl hnews' (by omega) (by omega) (by have hb := hbytes; simp only [Nat.zero_add] at hb; omega)
    refine ⟨_, _, hr, ?_, by simp⟩;have hge := grownCap_ge w m 0 e;have hcm:grownCap w m 0 e≤maxLen := grownCap_le_maxLen w m 0 e (by omega);have h2 := hs'.drew.alloc (news.toArray++Builtin.zeroCells z.cells (grownCap w m 0 e-m)) e;have h3 := Sat.slice_in (w0 := w0) (g := w.heap.size) (off := 0) (F := F) (k := i.size) (n := m) (xs := news) (cap := grownCap w m 0 e) (sp := (Builtin.zeroCells z.cells (grownCap w m 0 e-m)).toList) (h2.perm (by simp)) hge hcm hl (by simp [size_zeroCells, hzs])
    simpa using h3
  · by_cases hroom:n+m≤cap
    · have hspl:m*i.size≤sp.length := by rw [hsp]; exact Nat.mul_le_mul_right _ (by omega)
      have hr := run_append_room_cells (P := P) w t ty e i ht hi g off n cap a m c news hl hnews' h1 hroom
        (fun j hj => by
          have := hs'.cell (j := n*i.size+j) (v := (xs++sp)[n*i.size+j]'(by simp; omega)) (List.getElem?_eq_getElem _);rw [← Nat.add_assoc] at this; rw [this]; rfl)
        (fun j hj => by
          have := hs'.frz (j := n*i.size+j) (by simp; omega)
          rwa [← Nat.add_assoc] at this)
      refine ⟨_, _, hr, ?_, by rw [size_setCells]; exact Nat.le_refl _⟩;have h2 := Sat.setCells news w xs sp hs' (by omega);rw [hx] at h2;exact Sat.slice_in h2 hroom hcm (by simp [hx, hl, Nat.add_mul]) (by simp [hsp, hl, ← Nat.sub_mul]; congr 1; omega)
    · have hr := run_append_grow (P := P) w t ty e i z ht hi hz ⟨g, off, none⟩ n cap xs hx (fun j u hj => by
          rw [Addr.add_lit];exact hs'.cell (by rw [List.getElem?_append_left (List.getElem?_eq_some_iff.1 hj).1]; exact hj)) a m c news hl hnews' (by omega) (by omega) (growslice_fits (by omega) hbytes)
      refine ⟨_, _, hr, ?_, by simp⟩;have hge := grownCap_ge w (n+m) cap e;have hcm:grownCap w (n+m) cap e≤maxLen := grownCap_le_maxLen w (n+m) cap e h63;have h2 := hs'.drop.drew.alloc (xs.toArray++news.toArray++Builtin.zeroCells z.cells (grownCap w (n+m) cap e-(n+m))) e;have h3 := Sat.slice_in (w0 := w0) (g := w.heap.size) (off := 0) (F := F) (k := i.size) (n := n+m) (xs := xs++news) (cap := grownCap w (n+m) cap e) (sp := (Builtin.zeroCells z.cells (grownCap w (n+m) cap e-(n+m))).toList) (h2.perm (by simp)) hge hcm (by simp [hx, hl, Nat.add_mul]) (by simp [size_zeroCells, hzs])
      simpa using h3
end
structure ElemT (P:Program) (t e size bytes:Nat) (z:Value):Prop where
 ht:P.underlying t=some (.slice e)
 hi:(P.info? e).map (fun i=>(i.zero,i.size,i.bytes))=some (some z,size,bytes)
 hz:z.cells.size=size
section
variable {P:Program} {w0 w:World} {F:HP} {v:Value} {n:Nat} {xs:List Value} {t e size bytes:Nat} {z:Value}
theorem append_run (E:ElemT P t e size bytes z) (ty:TypeId) (hs:Sat w0 w (sliceP size v n xs*F))
  (ad:Option Addr) (m c:Nat) (news:List Value) (hl:news.length=m*size) (had:ad=none→m=0) (hnews:∀ a,ad=some a→∀ j u,news[j]?=some u→w.cell? (a.add j)=some u) (h1:∀ u∈news,u.oneCell'=true)
  (h63:n+m≤maxLen) (hbytes:(n+m)*bytes≤140737488355328) :
  ∃ v' w',(Builtin.append_ #[t,t] ty #[v,.slice ad m c]).run P w=.ok v' w'∧Sat w0 w' (sliceP size v' (n+m) (xs++news)*F)∧w.heap.size≤w'.heap.size:=by
 obtain ⟨i,hi,h2,h3,h4⟩:=info_parts E.hi;exact append_sat t ty e i z size bytes E.ht hi h2 h3 h4 E.hz hs ad m c news hl had hnews h1 h63 hbytes
theorem wp_append_sat {o:Oper} {a:Act} {K:Act→World→Prop} {Q:Exit→Act→World→Prop} (s x:Operand)
  (ho:o.op=.call { callee:=.builtin .append,args:=#[s,x],argTypes:=#[t,t] }) (E:ElemT P t e size bytes z)
  (hv:a.eval s=v) (hs:Sat w0 w (sliceP size v n xs*F))
  (ad:Option Addr) (m c:Nat) (news:List Value) (hx:a.eval x=.slice ad m c) (hl:news.length=m*size) (had:ad=none→m=0) (hnews:∀ a,ad=some a→∀ j u,news[j]?=some u→w.cell? (a.add j)=some u) (h1:∀ u∈news,u.oneCell'=true)
  (h63:n+m≤maxLen) (hbytes:(n+m)*bytes≤140737488355328)
  (h:∀ v' w',Sat w0 w' (sliceP size v' (n+m) (xs++news)*F)→w.heap.size≤w'.heap.size→K (a.put o.dst v') w'):o.wp P a w K Q:=by
 obtain ⟨v',w',hr,h2,h3⟩:=append_run E o.type hs ad m c news hl had hnews h1 h63 hbytes;unfold Oper.wp execOp;simp only [ho,resolve,invoke,builtin,Sem.run_bind,Sem.run_pure,Result.andThen_ok,List.map_toArray,List.map_cons,List.map_nil,hv,hx,hr];exact h v' w' h2 h3
theorem wpList_append_sat {ops:Array Oper} {rest:List Oper} {o:Oper} {a:Act} {Q:Exit→Act→World→Prop} (hgd:o.guard=none) (s x:Operand)
  (ho:o.op=.call { callee:=.builtin .append,args:=#[s,x],argTypes:=#[t,t] }) (E:ElemT P t e size bytes z)
  (hv:a.eval s=v) (hs:Sat w0 w (sliceP size v n xs*F))
  (ad:Option Addr) (m c:Nat) (news:List Value) (hx:a.eval x=.slice ad m c) (hl:news.length=m*size) (had:ad=none→m=0) (hnews:∀ a,ad=some a→∀ j u,news[j]?=some u→w.cell? (a.add j)=some u) (h1:∀ u∈news,u.oneCell'=true)
  (h63:n+m≤maxLen) (hbytes:(n+m)*bytes≤140737488355328)
  (h:∀ v' w',Sat w0 w' (sliceP size v' (n+m) (xs++news)*F)→w.heap.size≤w'.heap.size→wpList P ops Q rest (a.put o.dst v') w'):wpList P ops Q (o::rest) a w :=
 wpList_plain hgd fun _ hK=>wp_append_sat s x ho E hv hs ad m c news hx hl had hnews h1 h63 hbytes fun v' w' h2 h3=>hK _ _ (h v' w' h2 h3)
end
def RdN (κ:IntKind) (w:World) (v:Value) (l:List Int):Prop :=
 ∃ a cap b off,v=.slice a l.length cap∧l.length≤cap∧cap≤maxLen∧(l≠[]→a=some ⟨b,off,none⟩)∧∀ j,j<l.length→w.cell? ⟨b,off+j,none⟩=some (.int κ (l.getD j 0))
def numsP (κ:IntKind) (v:Value) (l:List Int):HP:=sliceP 1 v l.length (l.map (Value.int κ))
section
variable {w0 w:World} {F:HP} {κ:IntKind} {v:Value} {l:List Int}
theorem Sat.keep {P:HP} {a:Addr} {u:Value} (hs:Sat w0 w P) (h:w0.cell? a=some u):w.cell? a=some u:=by
 rw [hs.old (World.block_lt_of_cell? w0 _ h)];exact h
theorem RdN.drewN (h:RdN κ w v l) (n:Nat):RdN κ (w.drewN n) v l:=h
theorem RdN.later {P:HP} (h:RdN κ w0 v l) (hs:Sat w0 w P):RdN κ w v l:=by
 obtain ⟨a,cap,b,off,h1,h2,h3,h4,h5⟩:=h;refine ⟨a,cap,b,off,h1,h2,h3,h4,fun j hj=>?_⟩;have hc:=h5 j hj;rw [hs.old (World.block_lt_of_cell? w0 _ hc)];exact hc
theorem Sat.rdN (hs:Sat w0 w (numsP κ v l*F)):RdN κ w v l:=by
 rcases hs.slice_out with ⟨rfl,h0,h1,_⟩ | ⟨g,off,cap,sp,rfl,hc,hcm,hx,hsp,hs'⟩
 ·have:l=[]:=List.eq_nil_of_length_eq_zero h0;subst this;exact ⟨none,0,0,0,rfl,Nat.le_refl _,Nat.zero_le _,fun h=>absurd rfl h,fun j hj=>absurd hj (Nat.not_lt_zero _)⟩
 ·refine ⟨_,cap,g,off,rfl,hc,hcm,fun _=>rfl,fun j hj=>hs'.cell ?_⟩;rw [List.getElem?_append_left (by simpa using hj)];simp [List.getD,hj]
def Stays (w0:World) (F:HP) (κ:IntKind) (v:Value) (l:List Int):Prop:=∀ w,Sat w0 w F→RdN κ w v l
theorem RdN.stays (h:RdN κ w0 v l) (F:HP):Stays w0 F κ v l:=fun _ hs=>h.later hs
theorem Stays.rd {G:HP} (h:Stays w0 F κ v l) (hs:Sat w0 w (G*F)):RdN κ w v l:=h _ hs.drop
theorem RdN.len (h:RdN κ w v l):l.length≤maxLen:=by
 obtain ⟨a,cap,b,off,h1,h2,h3,h4,h5⟩:=h;omega
end
def Ret (w0:World) (Q:Value→HP) (e:Ending) (w':World):Prop:=∃ v,e=.returned v∧Sat w0 w' (Q v)
def RetV (w0:World) (v:Value) (Q:HP) (e:Ending) (w':World):Prop:=e=.returned v∧Sat w0 w' Q
theorem Sat.empty_slice {w0 w:World} {F:HP} (k:Nat) (hs:Sat w0 w F) (t:TypeId):Sat w0 (w.alloc (.cells #[] t)) (sliceP k (.slice (some ⟨w.heap.size,0,none⟩) 0 0) 0 []*F) :=
 Sat.slice_in (sp:=[]) (hs.alloc #[] t) (Nat.le_refl _) (Nat.zero_le _) (by simp) (by simp)
theorem cell_alloc {w:World} {a:Addr} {v:Value} (h:w.cell? a=some v) (o:Obj):(w.alloc o).cell? a=some v:=by
 rw [World.cell?_alloc_lt _ _ _ (World.block_lt_of_cell? w _ h)];exact h
theorem RdN.alloc {κ:IntKind} {w:World} {v:Value} {l:List Int} (h:RdN κ w v l) (o:Obj):RdN κ (w.alloc o) v l:=by
 obtain ⟨a,cap,b,off,h1,h2,h3,h4,h5⟩:=h;exact ⟨a,cap,b,off,h1,h2,h3,h4,fun j hj=>cell_alloc (h5 j hj) o⟩
theorem RdN.drew {κ:IntKind} {w:World} {v:Value} {l:List Int} (h:RdN κ w v l):RdN κ w.drew v l:=h
theorem rdN_lit (κ:IntKind) (l:List Int) (w:World) (t:TypeId) (h:l.length≤maxLen):RdN κ (w.alloc (.cells (l.map (Value.int κ)).toArray t)) (.slice (some ⟨w.heap.size,0,none⟩) l.length l.length) l :=
 ⟨_,l.length,w.heap.size,0,rfl,Nat.le_refl _,h,fun _=>rfl,fun j hj=>by
  rw [Nat.zero_add,World.cell?_alloc_new];simp [List.getD,hj]⟩
theorem oneCell_ints {κ:IntKind} (l:List Int):∀ u∈l.map (Value.int κ),u.oneCell'=true:=by
 intro u hu;obtain ⟨x,_,rfl⟩:=List.mem_map.1 hu
 rfl
theorem RdN.news {κ:IntKind} {w:World} {a:Option Addr} {n cap:Nat} {l:List Int} (h:RdN κ w (.slice a n cap) l) :
  n=l.length∧(a=none→n=0)∧∀ ad,a=some ad→∀ j u,(l.map (Value.int κ))[j]?=some u→w.cell? (ad.add j)=some u:=by
 obtain ⟨a',cap',b,off,h1,h2,h3,h4,h5⟩:=h;simp only [Value.slice.injEq] at h1;obtain ⟨rfl,rfl,rfl⟩:=h1;have hne:0<l.length→l≠[]:=fun h e=>by simp [e] at h
 refine ⟨rfl,fun hn=>?_,fun ad had j u hu=>?_⟩
 ·rcases Nat.eq_zero_or_pos l.length with h | h
  ·exact h
  ·have:=h4 (hne h);rw [hn] at this;cases this
 ·have hj:j<l.length:=by simpa using (List.getElem?_eq_some_iff.1 hu).1
  have e:=h4 (hne (by omega));rw [had] at e
  cases e
  rw [Addr.add_lit,h5 j hj]
  simpa [List.getD,hj] using hu
end Go.Sx
namespace Go.Proofs.YtndjjndllfdklaaGreatDoor
open Go.RowKit Go.Sx Go.ChangeShapes Go.WideShapes Go.ChangeAt
open Go.ChangeMaps (open_string shut_string)
theorem ownK:ownKnob Tryz.prog.godebug=none:=by kernel_rfl
theorem laidOut:laidOutB Tryz.prog=true:=by kernel_rfl
theorem addr_flat {w:World} {a:Addr} {u:Value} (h:w.cell? (a.add 0)=some u):∃ b off,a=⟨b,off,none⟩:=by
 have h:w.cell? a=some u:=by simpa [Addr.add] using h
 obtain ⟨b,off,s⟩:=a
 cases s with
 | none=>exact ⟨b,off,rfl⟩
 | some s =>
  unfold World.cell? at h
  split at h
  ·simp at h
  ·cases h
theorem rdN_of_open {κ:IntKind} {w:World} {a:Addr} {len cap:Nat} {zs:List Int} (hl:len≤cap) (hm:cap≤maxLen) (hz:zs.length=cap) (hc:∀ i,i<zs.length→w.cell? (a.add i)=some (.int κ (zs.getD i 0))) :
  RdN κ w (.slice (some a) len cap) (zs.take len):=by
 have hlen:(zs.take len).length=len:=by simp;omega
 by_cases h0:len=0
 ·subst h0;exact ⟨some a,cap,0,0,by simp,by simp,hm,fun h=>absurd (by simp) h,fun j hj=>absurd hj (by simp)⟩
 ·obtain ⟨b,off,rfl⟩:=addr_flat (hc 0 (by omega));refine ⟨_,cap,b,off,by rw [hlen],by omega,hm,fun _=>rfl,fun j hj=>?_⟩;have:=hc j (by omega);rw [Addr.add_lit] at this;rw [this]
  congr 2
  rw [hlen] at hj;simp [List.getD,hj]
section
variable {H:Type} {enc:TypeId×Value→H} {P:Program} {W:World} {base:Nat}
theorem opened_nums {t e:TypeId} {κ:IntKind} {v:Value} {d:DataW H} {p:List MemPlace} (ht:P.underlying t=some (.slice e)) (he:P.underlying e=some (.int κ)) (hc:P.cellsOf e=1)
  (hok:Value.okWide P W .any base t v) (h:DataW.Trod enc P W 0 (fun _=>true) true t v d p) :
  ∃ l,RdN κ W v l∧(∀ n∈l,(Lit.int κ n).wf=true)∧l.length≤maxLen:=by
 obtain ⟨a,len,cap,rfl⟩:=okWide_slice ht hok;obtain ⟨fuel,hf⟩:=h
 rcases open_ints ht he hc hf with ⟨hcs,_⟩ | ⟨x,l,c,zs,hcs,_,hl,hm,hz,_,hcell,hwz⟩
 ·simp [Value.cells] at hcs;obtain ⟨rfl,rfl,rfl⟩:=hcs;exact ⟨[],⟨none,0,0,0,rfl,Nat.le_refl _,Nat.zero_le _,fun h=>absurd rfl h,fun j hj=>absurd hj (Nat.not_lt_zero _)⟩,fun n hn=>(by cases hn),Nat.zero_le _⟩
 ·simp [Value.cells] at hcs;obtain ⟨rfl,rfl,rfl⟩:=hcs;exact ⟨_,rdN_of_open hl hm (by simpa using hz) hcell,fun n hn=>hwz n (List.mem_of_mem_take hn),by simp;omega⟩
theorem trod_places {t:TypeId} {v:Value} {d:DataW H} {p:List MemPlace} (h:DataW.Trod enc P W 0 (fun _=>true) true t v d p):∀ x∈p,x.block<W.heap.size:=by
 obtain ⟨m,hm⟩:=h;exact DataW.trod_lt m _ _ _ hm
end
end Go.Proofs.YtndjjndllfdklaaGreatDoor
namespace Go.Sx
open Go.RowKit
theorem own_it {w0 w:World} {P:HP} [h:Sat w0 w P]:Sat w0 w P:=h
class Pull (P Q:HP) (F:outParam HP):Prop where
 eq:P=Q*F
instance (priority:=2000) Pull.here (Q F:HP):Pull (Q*F) Q F:=⟨rfl⟩
instance (priority:=1000) Pull.right (A G Q F:HP) [h:Pull G Q F]:Pull (A*G) Q (A*F):=⟨by rw [h.eq];ac_rfl⟩
instance (priority:=900) Pull.left (A G Q F:HP) [h:Pull A Q F]:Pull (A*G) Q (F*G):=⟨by rw [h.eq];ac_rfl⟩
theorem Sat.pull {w0 w:World} {P Q F:HP} (hs:Sat w0 w P) [h:Pull P Q F]:Sat w0 w (Q*F):=hs.perm h.eq
theorem own {w0 w:World} {P Q F:HP} [hs:Sat w0 w P] [h:Pull P Q F]:Sat w0 w (Q*F):=hs.perm h.eq
class Lt (k n:Nat):Prop where
 lt:k<n
class Cell (P:HP) (b o:Nat) (v:outParam Value):Prop where
 cell:∀ {w0 w F},Sat w0 w (P*F)→w.cell? ⟨b,o,none⟩=some v
 free:∀ {w0 w F},Sat w0 w (P*F)→w.frozen? ⟨b,o,none⟩=false
instance (priority:=2000) Cell.head (b o:Nat) (x:Value) (xs:List Value):Cell (pts b o (x::xs)) b o x:=⟨fun h=>h.c0,fun h=>h.f0⟩
instance (priority:=1500) Cell.tail (b o o':Nat) (x v:Value) (xs:List Value) [h:Cell (pts b (o+1) xs) b o' v]:Cell (pts b o (x::xs)) b o' v :=
 ⟨fun {w0 w F} hs=>h.cell (F:=pts b o [x]*F) (hs.perm (by rw [pts_cons];ac_rfl)),fun {w0 w F} hs=>h.free (F:=pts b o [x]*F) (hs.perm (by rw [pts_cons];ac_rfl))⟩
instance (priority:=1000) Cell.left (A G:HP) (b o:Nat) (v:Value) [h:Cell A b o v]:Cell (A*G) b o v :=
 ⟨fun {w0 w F} hs=>h.cell (F:=G*F) (hs.perm (by ac_rfl)),fun {w0 w F} hs=>h.free (F:=G*F) (hs.perm (by ac_rfl))⟩
instance (priority:=900) Cell.right (A G:HP) (b o:Nat) (v:Value) [h:Cell G b o v]:Cell (A*G) b o v :=
 ⟨fun {w0 w F} hs=>h.cell (F:=A*F) (hs.perm (by ac_rfl)),fun {w0 w F} hs=>h.free (F:=A*F) (hs.perm (by ac_rfl))⟩
theorem getElem?_map_int (κ:IntKind) {l:List Int} {k:Nat} (h:k<l.length):(l.map (Value.int κ))[k]?=some (.int κ (l.getD k 0)):=by simp [List.getD,h]
theorem getElem?_map_bool {l:List Bool} {k:Nat} (h:k<l.length):(l.map Value.bool)[k]?=some (.bool (l.getD k false)):=by simp [List.getD,h]
theorem pts_split {w0 w:World} {F:HP} {b o:Nat} {xs:List Value} {k:Nat} {v:Value} (hs:Sat w0 w (pts b o xs*F)) (h:xs[k]?=some v):w.cell? ⟨b,o+k,none⟩=some v∧w.frozen? ⟨b,o+k,none⟩=false :=
 ⟨hs.cell h,hs.frz (List.getElem?_eq_some_iff.1 h).1⟩
theorem own_cell {w0 w:World} {P:HP} {b o:Nat} {v:Value} [h:Sat w0 w P] [c:Cell P b o v]:w.cell? ⟨b,o,none⟩=some v:=c.cell (F:=emp) (h.perm (star_emp P).symm)
theorem own_free {w0 w:World} {P:HP} {b o:Nat} {v:Value} [h:Sat w0 w P] [c:Cell P b o v]:w.frozen? ⟨b,o,none⟩=false:=c.free (F:=emp) (h.perm (star_emp P).symm)
class Upd (P:HP) (b o:Nat) (v:Value) (P':outParam HP):Prop where
 upd:∀ {w0 w F},Sat w0 w (P*F)→Sat w0 (w.setCell ⟨b,o,none⟩ v) (P'*F)
instance (priority:=2000) Upd.head (b o:Nat) (x v:Value) (xs:List Value):Upd (pts b o (x::xs)) b o v (pts b o (v::xs)):=⟨fun h=>h.set0 v⟩
instance (priority:=1500) Upd.tail (b o o':Nat) (x v:Value) (xs ys:List Value) [h:Upd (pts b (o+1) xs) b o' v (pts b (o+1) ys)]:Upd (pts b o (x::xs)) b o' v (pts b o (x::ys)) :=
 ⟨fun {w0 w F} hs=>(h.upd (F:=pts b o [x]*F) (hs.perm (by rw [pts_cons];ac_rfl))).perm (by rw [pts_cons b o x ys];ac_rfl)⟩
instance (priority:=1000) Upd.left (A A' G:HP) (b o:Nat) (v:Value) [h:Upd A b o v A']:Upd (A*G) b o v (A'*G) :=
 ⟨fun {w0 w F} hs=>(h.upd (F:=G*F) (hs.perm (by ac_rfl))).perm (by ac_rfl)⟩
instance (priority:=900) Upd.right (A G G':HP) (b o:Nat) (v:Value) [h:Upd G b o v G']:Upd (A*G) b o v (A*G') :=
 ⟨fun {w0 w F} hs=>(h.upd (F:=A*F) (hs.perm (by ac_rfl))).perm (by ac_rfl)⟩
class Size (w:World) (n:outParam Nat):Prop where
 eq:w.heap.size=n
instance (priority:=100) Size.base (w:World):Size w w.heap.size:=⟨rfl⟩
instance (priority:=1000) Size.drewN (w:World) (k n:Nat) [h:Size w n]:Size (w.drewN k) n:=⟨h.eq⟩
instance (priority:=1000) Size.alloc (w:World) (o:Obj) (n:Nat) [h:Size w n]:Size (w.alloc o) (n+1):=⟨by simp [h.eq]⟩
instance Sat.iset (w0 w:World) (P P':HP) (b o:Nat) (v:Value) [h:Sat w0 w P] [u:Upd P b o v P']:Sat w0 (w.setCell ⟨b,o,none⟩ v) P' :=
 (u.upd (F:=emp) (h.perm (star_emp P).symm)).perm (star_emp P')
instance Sat.idrew (w0 w:World) (P:HP) [h:Sat w0 w P]:Sat w0 w.drew P:=h.drew
instance Sat.idrewN (w0 w:World) (P:HP) (n:Nat) [h:Sat w0 w P]:Sat w0 (w.drewN n) P:=h.drewN n
instance Sat.ialloc (w0 w:World) (P:HP) (l:List Value) (t:TypeId) (n:Nat) [h:Sat w0 w P] [s:Size w n]:Sat w0 (w.alloc (.cells l.toArray t)) (pts n 0 l*P):=s.eq ▸ h.alloc l.toArray t
def any:HP:=fun _=>True
theorem Sat.toAny {w0 w:World} {P F:HP} (hs:Sat w0 w (P*F)):Sat w0 w (P*any):=((hs.perm (star_comm P F)).wk fun _ _=>trivial).perm (star_comm any P)
class PullN (P:HP) (κ:IntKind) (v:Value) (l:outParam (List Int)) (F:outParam HP):Prop where
 eq:P=numsP κ v l*F
instance (priority:=2000) PullN.here (κ:IntKind) (v:Value) (l:List Int) (F:HP):PullN (numsP κ v l*F) κ v l F:=⟨rfl⟩
instance (priority:=100) PullN.last (κ:IntKind) (v:Value) (l:List Int):PullN (numsP κ v l) κ v l emp:=⟨(star_emp _).symm⟩
instance (priority:=1000) PullN.right (A G F:HP) (κ:IntKind) (v:Value) (l:List Int) [h:PullN G κ v l F]:PullN (A*G) κ v l (A*F):=⟨by rw [h.eq];ac_rfl⟩
instance (priority:=900) PullN.left (A G F:HP) (κ:IntKind) (v:Value) (l:List Int) [h:PullN A κ v l F]:PullN (A*G) κ v l (F*G):=⟨by rw [h.eq];ac_rfl⟩
theorem Sat.nums_cell {w0 w:World} {F:HP} {κ:IntKind} {g off cap n:Nat} {l:List Int} (hs:Sat w0 w (numsP κ (.slice (some ⟨g,off,none⟩) n cap) l*F)) {k:Nat} (hk:k<l.length) :
  w.cell? ⟨g,off+k,none⟩=some (.int κ (l.getD k 0))∧w.frozen? ⟨g,off+k,none⟩=false:=by
 rcases hs.slice_out with ⟨e,_⟩ | ⟨g',off',cap',sp,e,_,_,hx,_,hs'⟩
 ·cases e
 ·simp only [Value.slice.injEq,Option.some.injEq,Addr.mk.injEq] at e;obtain ⟨⟨rfl,rfl,_⟩,_,_⟩:=e;exact pts_split hs' (by rw [List.getElem?_append_left (by simpa using hk)];exact getElem?_map_int κ hk)
instance (priority:=1200) Cell.nums (κ:IntKind) (g off n cap k:Nat) (l:List Int) [h:Lt k l.length]:Cell (numsP κ (.slice (some ⟨g,off,none⟩) n cap) l) g (off+k) (.int κ (l.getD k 0)) :=
 ⟨fun hs=>(hs.nums_cell h.lt).1,fun hs=>(hs.nums_cell h.lt).2⟩
class Old (w0:World) (b o:Nat) (v:outParam Value):Prop where
 old:w0.cell? ⟨b,o,none⟩=some v
theorem own_old {w0 w:World} {P:HP} {b o:Nat} {v:Value} [h:Sat w0 w P] [c:Old w0 b o v]:w.cell? ⟨b,o,none⟩=some v:=h.keep c.old
class OldN (w0:World) (κ:outParam IntKind) (b off:Nat) (l:outParam (List Int)):Prop where
 old:∀ j,j<l.length→w0.cell? ⟨b,off+j,none⟩=some (.int κ (l.getD j 0))
instance Old.num (w0:World) (κ:IntKind) (b off k:Nat) (l:List Int) [c:OldN w0 κ b off l] [h:Lt k l.length]:Old w0 b (off+k) (.int κ (l.getD k 0)):=⟨c.old k h.lt⟩
attribute [go_sem] own_cell own_free own_old
class Frm (P F:HP):Prop where
 out:∀ {w0 w Q},Sat w0 w (Q*P)→Sat w0 w (Q*F)
instance (priority:=2000) Frm.refl (F:HP):Frm F F:=⟨fun h=>h⟩
instance (priority:=1500) Frm.pull (P A F G:HP) [h:Pull P A F] [f:Frm F G]:Frm P (A*G):=⟨fun {w0 w Q} hs=>(f.out (Q:=Q*A) (hs.perm (by rw [h.eq];ac_rfl))).perm (by ac_rfl)⟩
instance (priority:=3000) Frm.any (P:HP):Frm P any:=⟨fun hs=>hs.toAny⟩
instance (priority:=2900) Frm.emp (P:HP):Frm P emp:=⟨fun hs=>hs.fst.perm (star_emp _).symm⟩
theorem Sat.left {w0 w:World} {P F:HP} (hs:Sat w0 w P) [f:Frm P F]:Sat w0 w F:=(f.out (Q:=emp) (hs.perm (emp_star P).symm)).perm (emp_star F)
theorem own_left {w0 w:World} {P F:HP} [hs:Sat w0 w P] [f:Frm P F]:Sat w0 w F:=hs.left
class Rd (w:World) (κ:IntKind) (v:Value) (l:outParam (List Int)):Prop where
 rd:RdN κ w v l
instance (priority:=1000) Rd.own (w0 w:World) (P:HP) (κ:IntKind) (v:Value) (l:List Int) (F:HP) [h:Sat w0 w P] [p:PullN P κ v l F]:Rd w κ v l:=⟨(h.perm p.eq).rdN⟩
instance (priority:=1100) Rd.one (w:World) (κ:IntKind) (x:Int) (t:TypeId) (n:Nat) [s:Size w n]:Rd (w.alloc (.cells [Value.int κ x].toArray t)) κ (.slice (some ⟨n,0,none⟩) 1 1) [x]:=⟨s.eq ▸ rdN_lit κ [x] w t (by simp [maxLen])⟩
class OldR (w0:World) (κ:IntKind) (v:Value) (l:outParam (List Int)):Prop where
 old:RdN κ w0 v l
instance (priority:=900) Rd.old (w0 w:World) (P:HP) (κ:IntKind) (v:Value) (l:List Int) [h:Sat w0 w P] [c:OldR w0 κ v l]:Rd w κ v l:=⟨c.old.later h⟩
theorem rd {w:World} {κ:IntKind} {v:Value} {l:List Int} [h:Rd w κ v l]:RdN κ w v l:=h.rd
theorem numsP_empty (κ:IntKind) (g o:Nat):numsP κ (.slice (some ⟨g,o,none⟩) 0 0) []=emp:=HP.same fun h=>by
 constructor
 ·intro p
  rcases p with ⟨e,_⟩ | ⟨g',off,cap,sp,e,_,_,hx,hsp,p⟩
  ·cases e
  ·simp only [Value.slice.injEq] at e;obtain ⟨_,_,rfl⟩:=e;have h1:([]:List Int).map (Value.int κ)++sp=[]:=by simpa using hsp
   rw [h1,pts_nil] at p;exact p
 ·intro e;refine Or.inr ⟨g,o,0,[],rfl,Nat.le_refl _,Nat.zero_le _,rfl,rfl,?_⟩;rw [show ([]:List Int).map (Value.int κ)++[]=[] from rfl,pts_nil];exact e
instance (priority:=50) PullN.empty (P:HP) (κ:IntKind) (g o:Nat):PullN P κ (.slice (some ⟨g,o,none⟩) 0 0) [] P:=⟨by rw [numsP_empty,emp_star]⟩
theorem RdN.len_eq {κ:IntKind} {w:World} {ad:Option Addr} {n c:Nat} {l:List Int} (h:RdN κ w (.slice ad n c) l):n=l.length:=by
 obtain ⟨a,cap,b,o,e,_⟩:=h;simp only [Value.slice.injEq] at e;exact e.2.1
class Elem (P:Program) (t:TypeId) (κ:outParam IntKind) (e bytes:outParam Nat) (z:outParam Value):Prop where
 el:ElemT P t e 1 bytes z
 le:bytes≤8
theorem wp_append_nums {P:Program} {w0 w:World} {P0 F:HP} {t e bytes:Nat} {z:Value} {κ:IntKind} {l l2:List Int} {K:Act→World→Prop} {o:Oper} {a:Act} {Q:Exit→Act→World→Prop} {s x:Operand} {ad sa:Option Addr} {m c sn sc:Nat}
  (ho:o.op=.call { callee:=.builtin .append,args:=#[s,x],argTypes:=#[t,t] }) [E:Elem P t κ e bytes z]
  (hv:a.eval s=.slice sa sn sc) (hx:a.eval x=.slice ad m c) [hs:Sat w0 w P0] [hp:PullN P0 κ (.slice sa sn sc) l F] [hr:Rd w κ (.slice ad m c) l2]
  (h63:sn+m≤1000000000)
  (h:∀ a' cap' L w',Hid (L=l++l2)→L.length≤sn+m→sn+m≤L.length→Sat w0 w' (numsP κ (.slice a' L.length cap') L*F)→w.heap.size≤w'.heap.size→K (a.put o.dst (.slice a' L.length cap')) w'):o.wp P a w K Q:=by
 have hn:=hr.rd.news;have hml:m=l2.length:=hn.1;have hsl:sn=l.length:=((hs.perm hp.eq).rdN (F:=F)).len_eq;have hs1:Sat w0 w (numsP κ (.slice sa sn sc) l*F):=hs.perm hp.eq;have hbb:(l.length+m)*bytes≤140737488355328:=Nat.le_trans (Nat.mul_le_mul (show l.length+m≤1000000000 by omega) E.le) (by decide);refine wp_append_sat s x ho E.el hv hs1 ad m c (l2.map (Value.int κ)) hx (by simp [hml]) hn.2.1 hn.2.2 (oneCell_ints l2) (by unfold maxLen;omega) hbb ?_;intro v' w' hs' hz;have hs2:Sat w0 w' (numsP κ v' (l++l2)*F):=by
  unfold numsP;rw [List.length_append,List.map_append,← hml];exact hs'
 obtain ⟨a',cap',rfl⟩:=hs2.slice_form;exact h a' cap' _ w' rfl (by simp;omega) (by simp;omega) hs2 hz
class PullA (P:HP) (a:Option Addr) (κ:outParam IntKind) (n c:outParam Nat) (l:outParam (List Int)) (F:outParam HP):Prop where
 eq:P=numsP κ (.slice a n c) l*F
instance (priority:=2000) PullA.here (κ:IntKind) (a:Option Addr) (n c:Nat) (l:List Int) (F:HP):PullA (numsP κ (.slice a n c) l*F) a κ n c l F:=⟨rfl⟩
theorem Sat.someA {w0 w:World} {P F:HP} {κ:IntKind} {n c:Nat} {l:List Int} (hs:Sat w0 w P) (a:Option Addr) [p:PullA P a κ n c l F] (h:0<l.length):∃ g off,a=some ⟨g,off,none⟩:=by
 rcases (hs.perm p.eq).slice_out with ⟨_,h0,_⟩ | ⟨g,off,cap,sp,e,_⟩
 ·omega
 ·simp only [Value.slice.injEq] at e;exact ⟨g,off,e.1⟩
theorem RdN.part {κ:IntKind} {w:World} {g off n c:Nat} {l:List Int} (h:RdN κ w (.slice (some ⟨g,off,none⟩) n c) l) (i m:Nat) (hi:i+m≤l.length) (c':Nat) (h1:m≤c') (h2:c'≤maxLen) :
  RdN κ w (.slice (some ⟨g,off+i,none⟩) m c') ((l.drop i).take m):=by
 obtain ⟨a,cap,b,o,e,h3,h4,h5,h6⟩:=h;simp only [Value.slice.injEq] at e;obtain ⟨rfl,rfl,rfl⟩:=e;have hl:((l.drop i).take m).length=m:=by simp;omega
 by_cases h0:m=0
 ·subst h0;exact ⟨_,c',g,off+i,by rw [hl],by rw [hl];omega,h2,fun h=>absurd (by simp) h,fun j hj=>absurd hj (by simp)⟩
 ·have hb:=h5 (by rintro rfl;simp at hi;omega);simp only [Option.some.injEq,Addr.mk.injEq] at hb;obtain ⟨rfl,rfl,_⟩:=hb;refine ⟨_,c',g,off+i,by rw [hl],by rw [hl];omega,h2,fun _=>rfl,fun j hj=>?_⟩;rw [hl] at hj;have:=h6 (i+j) (by omega);rw [← Nat.add_assoc] at this;rw [this]
  congr 2
  simp [List.getD,hj]
theorem wpList_append_nums {P:Program} {w0 w:World} {P0 F:HP} {t e bytes:Nat} {z:Value} {κ:IntKind} {l l2:List Int} {ops:Array Oper} {rest:List Oper} {o:Oper} {a:Act} {Q:Exit→Act→World→Prop} {s x:Operand} {ad sa:Option Addr} {m c sn sc:Nat}
  (hgd:o.guard=none) (ho:o.op=.call { callee:=.builtin .append,args:=#[s,x],argTypes:=#[t,t] }) [E:Elem P t κ e bytes z]
  (hv:a.eval s=.slice sa sn sc) (hx:a.eval x=.slice ad m c) [hs:Sat w0 w P0] [hp:PullN P0 κ (.slice sa sn sc) l F] [hr:Rd w κ (.slice ad m c) l2]
  (h63:sn+m≤1000000000)
  (h:∀ a' cap' L w',Hid (L=l++l2)→L.length≤sn+m→sn+m≤L.length→Sat w0 w' (numsP κ (.slice a' L.length cap') L*F)→w.heap.size≤w'.heap.size→wpList P ops Q rest (a.put o.dst (.slice a' L.length cap')) w'):wpList P ops Q (o::rest) a w :=
 wpList_plain hgd fun _ hK=>wp_append_nums ho hv hx h63 fun a' cap' L w' h1 h2 h3 h4 h5=>hK _ _ (h a' cap' L w' h1 h2 h3 h4 h5)
class Part (κ:IntKind) (v:Value) (src:outParam Value) (l L:outParam (List Int)):Prop where
 part:∀ w,RdN κ w src l→RdN κ w v L
theorem RdN.cut {κ:IntKind} {w:World} {ad:Option Addr} {n c:Nat} {l:List Int} (h:RdN κ w (.slice ad n c) l) (i m c':Nat) (hi:i+m≤l.length) (h1:m≤c') (h2:c'≤maxLen) :
  RdN κ w (.slice (ad.map (·.add i)) m c') ((l.drop i).take m):=by
 obtain ⟨a,cap,b,o,e,h3,h4,h5,h6⟩:=h;simp only [Value.slice.injEq] at e;obtain ⟨rfl,rfl,rfl⟩:=e;have hl:((l.drop i).take m).length=m:=by simp;omega
 by_cases h0:m=0
 ·subst h0;exact ⟨_,c',0,0,by rw [hl],by rw [hl];omega,h2,fun h=>absurd (by simp) h,fun j hj=>absurd hj (by simp)⟩
 ·have hb:=h5 (by rintro rfl;simp at hi;omega);subst hb;refine ⟨_,c',b,o+i,by rw [hl],by rw [hl];omega,h2,fun _=>by simp [Addr.add],fun j hj=>?_⟩;rw [hl] at hj;have:=h6 (i+j) (by omega);rw [← Nat.add_assoc] at this;rw [this]
  congr 2
  simp [List.getD,hj]
theorem RdN.caps {κ:IntKind} {w:World} {ad:Option Addr} {n c:Nat} {l:List Int} (h:RdN κ w (.slice ad n c) l):n=l.length∧n≤c∧c≤maxLen:=by
 obtain ⟨a,cap,b,o,e,h3,h4,_⟩:=h;simp only [Value.slice.injEq] at e;obtain ⟨rfl,rfl,rfl⟩:=e;exact ⟨rfl,h3,h4⟩
theorem part_sliced {κ:IntKind} {ad:Option Addr} {n c:Nat} {l:List Int} (lo hi:Nat) (h1:lo≤hi) (h2:hi≤l.length):∃ x, ∀ w,RdN κ w (.slice ad n c) l→sliced ad lo hi c 1=.slice x ((l.take hi).drop lo).length (c-lo)∧RdN κ w (.slice x ((l.take hi).drop lo).length (c-lo)) ((l.take hi).drop lo):=by
 have hl:((l.take hi).drop lo).length=hi-lo:=by simp;omega
 have he:(l.take hi).drop lo=(l.drop lo).take (hi-lo):=by rw [List.drop_take]
 by_cases hc:c=lo
 ·refine ⟨ad,fun w hr=>⟨by simp [sliced,hc,hl],?_⟩⟩;have hq:=hr.caps;have hn:l.drop lo=[]:=List.drop_eq_nil_of_le (by omega);rw [hl,he,hn,List.take_nil];exact ⟨ad,c-lo,0,0,by simp;omega,Nat.zero_le _,by omega,fun h=>absurd rfl h,fun j hj=>absurd hj (by simp)⟩
 ·refine ⟨ad.map (·.add lo),fun w hr=>⟨by simp [sliced,hc,hl],?_⟩⟩;have hq:=hr.caps;rw [hl,he];exact hr.cut lo (hi - lo) (c - lo) (by omega) (by omega) (by omega)
section
variable {P:Program} {w:World} {t e bytes:Nat} {z:Value} {κ:IntKind} {l:List Int} {ops:Array Oper} {rest:List Oper} {o:Oper} {a:Act} {Q:Exit→Act→World→Prop} {s lo hi:Operand} {sa:Option Addr} {sn sc:Nat} {i j:Int}
theorem sliced_go (E:ElemT P t e 1 bytes z):P.underlying t=some (.slice (P.elem t))∧(sizeOf (P.elem t)).run P w=.ok 1 w:=by
 have he:P.elem t=e:=by simp [Program.elem,E.ht]
 obtain ⟨inf,h1,h2,h3,h4⟩:=info_parts E.hi;refine ⟨by rw [he];exact E.ht,?_⟩;rw [he];simp [sizeOf,typeInfo,h1,h3]
theorem wpList_slice_from (hgd:o.guard=none) (ho:o.op=.slice t s (some lo) none none) [E:Elem P t κ e bytes z] (hv:a.eval s=.slice sa sn sc) (hlo:a.eval lo=.int .i64 i) [hr:Rd w κ (.slice sa sn sc) l] (h0:0≤i) (h1:i≤sn)
  (h:∀ x c' L,Part κ (.slice x L.length c') (.slice sa sn sc) l L→Hid (L=l.drop i.toNat)→L.length+i.toNat≤sn→sn≤L.length+i.toNat→wpList P ops Q rest (a.put o.dst (.slice x L.length c')) w):wpList P ops Q (o::rest) a w:=by
 refine wpList_plain hgd fun K hK=>?_;obtain ⟨e1,e2⟩:=sliced_go (w:=w) E.el;have hq:=hr.rd.caps;have h1:i≤l.length:=by omega
 obtain ⟨x,hx⟩:=part_sliced (κ:=κ) (ad:=sa) (n:=sn) (c:=sc) (l:=l) i.toNat l.length (by omega) (Nat.le_refl _);have hrun:(Instr.sliceAt t (.slice sa sn sc) (some (.int .i64 i)) none none).run P w=.ok (sliced sa i.toNat sn sc 1) w:=by
  rw [run_sliceAt_slice w t _ _ _ _ e1,run_slice_l w t sa sn sc e1 .i64 i h0 (by omega),e2];rfl
 unfold Oper.wp execOp;simp only [ho,Option.map,hv,hlo,hrun,Sem.run_bind,Sem.run_pure,Result.andThen_ok];have hl:(l.take l.length).drop i.toNat=l.drop i.toNat:=by rw [List.take_length]
 rw [hl] at hx;have hx1:=(hx w hr.rd).1;rw [← hq.1] at hx1;rw [hx1];exact hK _ _ (h x (sc-i.toNat) (l.drop i.toNat) ⟨fun w hw=>(hx w hw).2⟩ rfl (by simp;omega) (by simp;omega))
theorem wpList_slice_to (hgd:o.guard=none) (ho:o.op=.slice t s none (some hi) none) [E:Elem P t κ e bytes z] (hv:a.eval s=.slice sa sn sc) (hhi:a.eval hi=.int .i64 j) [hr:Rd w κ (.slice sa sn sc) l] (h0:0≤j) (h1:j≤sn)
  (h:∀ x c' L,Part κ (.slice x L.length c') (.slice sa sn sc) l L→Hid (L=l.take j.toNat)→L.length≤j.toNat→j.toNat≤L.length→wpList P ops Q rest (a.put o.dst (.slice x L.length c')) w):wpList P ops Q (o::rest) a w:=by
 refine wpList_plain hgd fun K hK=>?_;obtain ⟨e1,e2⟩:=sliced_go (w:=w) E.el;have hq:=hr.rd.caps;have h1:j≤l.length:=by omega
 obtain ⟨x,hx⟩:=part_sliced (κ:=κ) (ad:=sa) (n:=sn) (c:=sc) (l:=l) 0 j.toNat (Nat.zero_le _) (by omega);have hrun:(Instr.sliceAt t (.slice sa sn sc) none (some (.int .i64 j)) none).run P w=.ok (sliced sa 0 j.toNat sc 1) w:=by
  rw [run_sliceAt_slice w t _ _ _ _ e1,run_slice_h w t sa sn sc e1 .i64 j h0 (by omega),e2];rfl
 unfold Oper.wp execOp;simp only [ho,Option.map,hv,hhi,hrun,Sem.run_bind,Sem.run_pure,Result.andThen_ok];have hx1:=(hx w hr.rd).1;have hl:(l.take j.toNat).drop 0=l.take j.toNat:=by rw [List.drop_zero]
 rw [hl] at hx hx1;rw [hx1];exact hK _ _ (h x (sc-0) (l.take j.toNat) ⟨fun w hw=>(hx w hw).2⟩ rfl (by simp;omega) (by simp;omega))
end
theorem wp_gen {P:Program} {c:Code} {Q:Exit→Act→World→Prop} {a:Act} {w0 w:World} {R:HP} [h:Sat w0 w R] (k:∀ wx,Sat w0 wx R→c.wp P Q a wx):c.wp P Q a w:=k w h
end Go.Sx
namespace Go.Sx
open Go.RowKit
class Enc (α:Type) (sz:outParam Nat) where
 enc:α→List Value
 len:∀ x,(enc x).length=sz
 one:∀ x, ∀ u∈enc x,u.oneCell'=true
 dft:α
 pos:0<sz
section
variable {α:Type} {sz:Nat} [E:Enc α sz]
def cellsOf (l:List α):List Value:=l.flatMap E.enc
theorem cellsOf_nil:cellsOf ([]:List α)=[]:=rfl
theorem cellsOf_cons (x:α) (l:List α):cellsOf (x::l)=E.enc x++cellsOf l:=by simp [cellsOf]
theorem cellsOf_append (l m:List α):cellsOf (l++m)=cellsOf l++cellsOf m:=by simp [cellsOf]
theorem cellsOf_len (l:List α):(cellsOf l).length=l.length*sz:=by
 induction l with
 | nil=>simp [cellsOf]
 | cons x l ih=>rw [cellsOf_cons,List.length_append,E.len,ih,List.length_cons,Nat.add_mul];omega
theorem cellsOf_one (l:List α):∀ u∈cellsOf l,u.oneCell'=true:=by
 intro u hu;obtain ⟨x,_,h⟩:=List.mem_flatMap.1 hu;exact E.one x u h
theorem cellsOf_at {l:List α} {k c:Nat} (hk:k<l.length) (hc:c<sz):(cellsOf l)[k*sz+c]?=(E.enc (l.getD k E.dft))[c]?:=by
 induction l generalizing k with
 | nil=>simp at hk
 | cons x l ih =>
  rw [cellsOf_cons]
  cases k with
  | zero=>rw [Nat.zero_mul,Nat.zero_add,List.getElem?_append_left (by rw [E.len];exact hc)];simp [List.getD]
  | succ k =>
   rw [List.getElem?_append_right (by rw [E.len,Nat.add_mul];omega),E.len,show (k+1)*sz+c-sz=k*sz+c by rw [Nat.add_mul];omega,ih (by simpa using hk)];simp [List.getD]
theorem cellsOf_take (l:List α) (k:Nat):cellsOf (l.take k)=(cellsOf l).take (k*sz):=by
 induction l generalizing k with
 | nil=>simp [cellsOf]
 | cons x l ih =>
  cases k with
  | zero=>simp [cellsOf]
  | succ k=>rw [List.take_succ_cons,cellsOf_cons,cellsOf_cons,ih,List.take_append,E.len,List.take_of_length_le (l:=E.enc x) (by rw [E.len,Nat.add_mul];omega),show (k+1)*sz-sz=k*sz by rw [Nat.add_mul];omega]
theorem cellsOf_drop (l:List α) (k:Nat):cellsOf (l.drop k)=(cellsOf l).drop (k*sz):=by
 induction l generalizing k with
 | nil=>simp [cellsOf]
 | cons x l ih =>
  cases k with
  | zero=>simp
  | succ k=>rw [List.drop_succ_cons,cellsOf_cons,ih,List.drop_append,E.len, @List.drop_eq_nil_of_le _ (E.enc x) _ (by rw [E.len,Nat.add_mul];omega),List.nil_append,show (k+1)*sz-sz=k*sz by rw [Nat.add_mul];omega]
def recsP (v:Value) (l:List α):HP:=sliceP sz v l.length (cellsOf l)
def RdR (w:World) (v:Value) (l:List α):Prop :=
 ∃ a cap b off,v=.slice a l.length cap∧l.length≤cap∧cap≤maxLen∧(l≠[]→a=some ⟨b,off,none⟩)∧∀ j u,(cellsOf l)[j]?=some u→w.cell? ⟨b,off+j,none⟩=some u
theorem Sat.rdR {w0 w:World} {F:HP} {v:Value} {l:List α} (hs:Sat w0 w (recsP v l*F)):RdR w v l:=by
 rcases hs.slice_out with ⟨rfl,h0,h1,_⟩ | ⟨g,off,cap,sp,rfl,hc,hcm,hx,hsp,hs'⟩
 ·have:l=[]:=List.eq_nil_of_length_eq_zero h0;subst this;exact ⟨none,0,0,0,rfl,Nat.le_refl _,Nat.zero_le _,fun h=>absurd rfl h,fun j u hj=>by simp [cellsOf] at hj⟩
 ·exact ⟨_,cap,g,off,rfl,hc,hcm,fun _=>rfl,fun j u hj=>hs'.cell (by rw [List.getElem?_append_left (List.getElem?_eq_some_iff.1 hj).1];exact hj)⟩
theorem RdR.later {w0 w:World} {v:Value} {l:List α} {P:HP} (h:RdR w0 v l) (hs:Sat w0 w P):RdR w v l:=by
 obtain ⟨a,cap,b,off,h1,h2,h3,h4,h5⟩:=h;exact ⟨a,cap,b,off,h1,h2,h3,h4,fun j u hj=>hs.keep (h5 j u hj)⟩
theorem RdR.caps {w:World} {ad:Option Addr} {n c:Nat} {l:List α} (h:RdR w (.slice ad n c) l):n=l.length∧n≤c∧c≤maxLen:=by
 obtain ⟨a,cap,b,o,e,h3,h4,_⟩:=h;simp only [Value.slice.injEq] at e;obtain ⟨rfl,rfl,rfl⟩:=e;exact ⟨rfl,h3,h4⟩
theorem RdR.news {w:World} {a:Option Addr} {n cap:Nat} {l:List α} (h:RdR w (.slice a n cap) l) :
  n=l.length∧(a=none→n=0)∧∀ ad,a=some ad→∀ j u,(cellsOf l)[j]?=some u→w.cell? (ad.add j)=some u:=by
 obtain ⟨a',cap',b,off,h1,h2,h3,h4,h5⟩:=h;simp only [Value.slice.injEq] at h1;obtain ⟨rfl,rfl,rfl⟩:=h1;have hne:0<l.length→l≠[]:=fun h e=>by simp [e] at h
 refine ⟨rfl,fun hn=>?_,fun ad had j u hu=>?_⟩
 ·rcases Nat.eq_zero_or_pos l.length with h | h
  ·exact h
  ·have:=h4 (hne h);rw [hn] at this;cases this
 ·have hj:j<(cellsOf l).length:=(List.getElem?_eq_some_iff.1 hu).1;have e:=h4 (fun e=>by rw [e] at hj;simp [cellsOf] at hj);rw [had] at e
  cases e
  rw [Addr.add_lit];exact h5 j u hu
theorem rdR_nil (w:World):RdR (α:=α) w (.slice none 0 0) []:=⟨none,0,0,0,rfl,Nat.le_refl _,Nat.zero_le _,fun h=>absurd rfl h,fun j u hj=>by simp [cellsOf] at hj⟩
end
class PullR (P:HP) {α:Type} {sz:Nat} (E:Enc α sz) (v:Value) (l:outParam (List α)) (F:outParam HP):Prop where
 eq:P=@recsP α sz E v l*F
section
variable {α:Type} {sz:Nat} [E:Enc α sz]
instance (priority:=2000) PullR.here (v:Value) (l:List α) (F:HP):PullR (recsP v l*F) E v l F:=⟨rfl⟩
instance (priority:=1000) PullR.right (A G F:HP) (v:Value) (l:List α) [h:PullR G E v l F]:PullR (A*G) E v l (A*F):=⟨by rw [h.eq];ac_rfl⟩
theorem recsP_empty (g o:Nat):recsP (α:=α) (.slice (some ⟨g,o,none⟩) 0 0) []=emp:=HP.same fun h=>by
 constructor
 ·intro p
  rcases p with ⟨e,_⟩ | ⟨g',off,cap,sp,e,_,_,hx,hsp,p⟩
  ·cases e
  ·simp only [Value.slice.injEq] at e;obtain ⟨_,_,rfl⟩:=e;have h1:cellsOf ([]:List α)++sp=[]:=by rw [cellsOf_nil,List.nil_append];simpa using hsp
   rw [h1,pts_nil] at p;exact p
 ·intro e;refine Or.inr ⟨g,o,0,[],rfl,Nat.le_refl _,Nat.zero_le _,by simp [cellsOf],by simp,?_⟩;rw [cellsOf_nil,List.nil_append,pts_nil];exact e
instance (priority:=50) PullR.empty (P:HP) (g o:Nat):PullR P E (.slice (some ⟨g,o,none⟩) 0 0) [] P:=⟨by rw [recsP_empty,emp_star]⟩
end
class RdC (w:World) {α:Type} {sz:Nat} (E:Enc α sz) (v:Value) (l:outParam (List α)):Prop where
 rd:@RdR α sz E w v l
class OldRec (w0:World) {α:Type} {sz:Nat} (E:Enc α sz) (v:Value) (l:outParam (List α)):Prop where
 old:@RdR α sz E w0 v l
section
variable {α:Type} {sz:Nat} [E:Enc α sz]
instance (priority:=1000) RdC.own (w0 w:World) (P:HP) (v:Value) (l:List α) (F:HP) [h:Sat w0 w P] [p:PullR P E v l F]:RdC w E v l:=⟨(h.perm p.eq).rdR⟩
instance (priority:=900) RdC.old (w0 w:World) (P:HP) (v:Value) (l:List α) [h:Sat w0 w P] [c:OldRec w0 E v l]:RdC w E v l:=⟨c.old.later h⟩
theorem rdr {w:World} {v:Value} {l:List α} [h:RdC w E v l]:RdR w v l:=h.rd
end
class ElemR (P:Program) (t:TypeId) (α:outParam Type) (sz:outParam Nat) (E:outParam (Enc α sz)) (e bytes:outParam Nat) (z:outParam Value):Prop where
 el:ElemT P t e sz bytes z
 le:bytes≤100
section
variable {P:Program} {w0 w:World} {P0 F:HP} {α:Type} {sz:Nat} {E:Enc α sz} {t e bytes:Nat} {z:Value} {l l2:List α} {o:Oper} {a:Act} {Q:Exit→Act→World→Prop} {s x:Operand} {ad sa:Option Addr} {m c sn sc:Nat}
theorem wp_append_recs {K:Act→World→Prop}
  (ho:o.op=.call { callee:=.builtin .append,args:=#[s,x],argTypes:=#[t,t] }) [ET:ElemR P t α sz E e bytes z]
  (hv:a.eval s=.slice sa sn sc) (hx:a.eval x=.slice ad m c) [hs:Sat w0 w P0] [hp:PullR P0 E (.slice sa sn sc) l F] [hr:RdC w E (.slice ad m c) l2]
  (h63:sn+m≤1000000000)
  (h:∀ a' cap' L w',Hid (L=l++l2)→L.length≤sn+m→sn+m≤L.length→Sat w0 w' (recsP (.slice a' L.length cap') L*F)→w.heap.size≤w'.heap.size→K (a.put o.dst (.slice a' L.length cap')) w'):o.wp P a w K Q:=by
 have hn:=hr.rd.news;have hml:m=l2.length:=hn.1;have hsl:sn=l.length:=(hs.perm hp.eq).rdR.caps.1;have hs1:Sat w0 w (recsP (.slice sa sn sc) l*F):=hs.perm hp.eq;have hbb:(l.length+m)*bytes≤140737488355328:=Nat.le_trans (Nat.mul_le_mul (show l.length+m≤1000000000 by omega) ET.le) (by decide);refine wp_append_sat s x ho ET.el hv hs1 ad m c (cellsOf l2) hx (by rw [cellsOf_len,hml]) hn.2.1 hn.2.2 (cellsOf_one l2) (by unfold maxLen;omega) hbb ?_;intro v' w' hs' hz;have hs2:Sat w0 w' (recsP v' (l++l2)*F):=by
  unfold recsP;rw [List.length_append,cellsOf_append,← hml];exact hs'
 obtain ⟨a',cap',rfl⟩:=hs2.slice_form;exact h a' cap' _ w' rfl (by simp;omega) (by simp;omega) hs2 hz
theorem wpList_append_recs {ops:Array Oper} {rest:List Oper} (hgd:o.guard=none)
  (ho:o.op=.call { callee:=.builtin .append,args:=#[s,x],argTypes:=#[t,t] }) [ET:ElemR P t α sz E e bytes z]
  (hv:a.eval s=.slice sa sn sc) (hx:a.eval x=.slice ad m c) [hs:Sat w0 w P0] [hp:PullR P0 E (.slice sa sn sc) l F] [hr:RdC w E (.slice ad m c) l2]
  (h63:sn+m≤1000000000)
  (h:∀ a' cap' L w',Hid (L=l++l2)→L.length≤sn+m→sn+m≤L.length→Sat w0 w' (recsP (.slice a' L.length cap') L*F)→w.heap.size≤w'.heap.size→wpList P ops Q rest (a.put o.dst (.slice a' L.length cap')) w'):wpList P ops Q (o::rest) a w :=
 wpList_plain hgd fun _ hK=>wp_append_recs ho hv hx h63 fun a' cap' L w' h1 h2 h3 h4 h5=>hK _ _ (h a' cap' L w' h1 h2 h3 h4 h5)
end
section
variable {α:Type} {sz:Nat} [E:Enc α sz]
theorem RdR.cut {w:World} {ad:Option Addr} {n c:Nat} {l:List α} (h:RdR w (.slice ad n c) l) (i m c':Nat) (hi:i+m≤l.length) (h1:m≤c') (h2:c'≤maxLen) :
  RdR w (.slice (ad.map (·.add (i * sz))) m c') ((l.drop i).take m):=by
 obtain ⟨a,cap,b,o,e,h3,h4,h5,h6⟩:=h;simp only [Value.slice.injEq] at e;obtain ⟨rfl,rfl,rfl⟩:=e;have hl:((l.drop i).take m).length=m:=by simp;omega
 by_cases h0:m=0
 ·subst h0;exact ⟨_,c',0,0,by rw [hl],by rw [hl];omega,h2,fun h=>absurd (by simp) h,fun j u hj=>by rw [List.take_zero,cellsOf_nil] at hj;cases hj⟩
 ·have hb:=h5 (by rintro rfl;simp at hi;omega);subst hb;refine ⟨_,c',b,o+i*sz,by rw [hl],by rw [hl];omega,h2,fun _=>by simp [Addr.add],fun j u hj=>?_⟩;rw [cellsOf_take,cellsOf_drop] at hj;have hj':=(List.getElem?_eq_some_iff.1 hj).1;rw [List.length_take] at hj';rw [List.getElem?_take_of_lt (by omega),List.getElem?_drop] at hj;have:=h6 (i*sz+j) u hj
  rwa [← Nat.add_assoc] at this
end
section
variable {P:Program} {w:World} {α:Type} {sz:Nat} {E:Enc α sz} {t e bytes:Nat} {z:Value} {l:List α} {ops:Array Oper} {rest:List Oper} {o:Oper} {a:Act} {Q:Exit→Act→World→Prop} {s lo hi:Operand} {sa:Option Addr} {sn sc:Nat} {i j:Int}
end
section
variable {α:Type} {sz:Nat} [E:Enc α sz]
end
def wpTill (P:Program) (md:Region.Mode) (ops:Array Oper) (Q:Exit→Act→World→Prop) (S:World→Prop) (j0:Nat):Nat→Array Bool→Act→World→Prop
 | 0,listed,a,w=>Region.ready md ops listed=[]∧Q .normal a w
 | fuel+1,listed,a,w =>
  (Region.ready md ops listed=[]→Q .normal a w) ∧
  ∀ i∈Region.ready md ops listed,wpOp P ops Q i (fun a' w'=>(i≠j0→listed.getD j0 true=false→S w')∧wpTill P md ops Q S j0 fuel (listed.setIfInBounds i true) a' w') a w
section
variable {P:Program} {ops:Array Oper} {Q:Exit→Act→World→Prop} {md:Region.Mode} {S:World→Prop} {j0:Nat}
theorem wpAny_of_till:∀ (fuel:Nat) (listed:Array Bool) (a:Act) (w:World),wpTill P md ops Q S j0 fuel listed a w→wpAny P md ops Q fuel listed a w
 | 0,_,_,_,h=>h
 | fuel+1,_,_,_,h=>⟨h.1,fun i hi=>wpOp_mono (fun a' w' h'=>wpAny_of_till fuel _ a' w' h'.2) (h.2 i hi)⟩
def waitsFor (md:Region.Mode) (ops:Array Oper) (j0 i:Nat):Bool:=match ops[j0]? with
 | none=>false
 | some o=>o.after.any fun e=>Region.binds md e && e.on==i
theorem waitsFor_ready {i:Nat} {listed:Array Bool} (h:waitsFor md ops j0 i=true) (hr:j0∈Region.ready md ops listed):listed.getD i false=true:=by
 unfold waitsFor at h;obtain ⟨_,o,ho,hall⟩:=mem_ready.1 hr;rw [ho] at h;obtain ⟨e,he,hb⟩:=Array.any_eq_true'.1 h;simp only [Bool.and_eq_true,beq_iff_eq] at hb;rw [← hb.2];exact hall e he hb.1
theorem unlisted {i:Nat} {listed:Array Bool} (h:listed.getD i true=false):¬ listed.getD i false=true:=by
 rcases Nat.lt_or_ge i listed.size with h' | h'
 ·simp [h'] at h ⊢;exact h
 ·simp [Array.getElem?_eq_none h'] at h
theorem listed_set {i:Nat} {listed:Array Bool} (h:listed.getD i true=false):(listed.setIfInBounds i true).getD i true=true:=by
 rcases Nat.lt_or_ge i listed.size with h' | h'
 ·simp [h']
 ·simp [Array.getElem?_eq_none h'] at h
theorem wpTill_first {i:Nat} {oi:Oper} {v:Value} {Si:World→Prop} (hi:ops[i]?=some oi) (hsel:∀ (j:Nat) (o:Oper) cs b,ops[j]?=some o→o.op≠.select cs b)
  (hQ:∀ c a w,Q (.panic c) (a.put oi.dst v) w→Q (.panic c) a w) (hij:i≠j0) (hneed:(∀ w,Si w)∨((∀ w,S w→Si w)∧waitsFor md ops j0 i=true)) :
  ∀ (fuel:Nat) (listed:Array Bool) (a:Act) (w:World),
   (∀ j oj,ops[j]?=some oj→j≠i→listed.getD j true=false→(∀ e∈oj.after,Region.binds md e=true→e.on≠i)→oi.apart ops oj=true) →
   i∈Region.ready md ops listed→((∀ w,Si w)∨listed.getD j0 true=false)→YieldsIf P ops Si oi v a→(listed.getD j0 true=false→S w) →
   wpTill P md ops Q S j0 fuel (listed.setIfInBounds i true) (a.put oi.dst v) w→wpTill P md ops Q S j0 (fuel+1) listed a w:=by
 have hSi:∀ (listed:Array Bool) (w:World),((∀ w,Si w)∨listed.getD j0 true=false)→(listed.getD j0 true=false→S w)→Si w:=fun listed w h1 h2=>by
  rcases h1 with h | h
  ·exact h w
  ·rcases hneed with h3 | ⟨h3,_⟩
   ·exact h3 w
   ·exact h3 w (h2 h)
 intro fuel
 induction fuel with
 | zero =>
  intro listed a w _ hr hst hy hS H;refine ⟨fun h=>(by rw [h] at hr;cases hr),fun j hj=>?_⟩
  by_cases hji:j=i
  ·subst hji;exact hy.wpOp hi (hSi listed w hst hS) ⟨fun _ h=>hS h,H⟩
  ·have:=ready_mono hj hji;rw [H.1] at this
   cases this
 | succ fuel ih =>
  intro listed a w hfree hr hst hy hS H;refine ⟨fun h=>(by rw [h] at hr;cases hr),fun j hj=>?_⟩
  by_cases hji:j=i
  ·subst hji;exact hy.wpOp hi (hSi listed w hst hS) ⟨fun _ h=>hS h,H⟩
  ·have h1:=H.2 j (ready_mono hj hji);obtain ⟨hjun,oj,hoj,hall⟩:=mem_ready.1 hj;have hiun:=(mem_ready.1 hr).1;have hnot:∀ e∈oj.after,Region.binds md e=true→e.on≠i:=fun e he hb heq=>by
    have h1:=hall e he hb;rw [heq] at h1;exact unlisted hiun h1
   have h2:=wpOp_putIf hoj (hfree j oj hoj hji hjun hnot) (fun cs b=>hsel i oi cs b hi) (fun cs b=>hsel j oj cs b hoj) hQ hy h1;have hfree':∀ k ok,ops[k]?=some ok→k≠i→(listed.setIfInBounds j true).getD k true=false →
     (∀ e∈ok.after,Region.binds md e=true→e.on≠i)→oi.apart ops ok=true:=fun k ok hk hki hun hno=>by
    refine hfree k ok hk hki ?_ hno
    by_cases hjk:j=k
    ·subst hjk;exact hjun
    ·rw [getD_set_ne true hjk] at hun;exact hun
   have hst':(∀ w,Si w)∨(listed.setIfInBounds j true).getD j0 true=false:=by
    rcases hst with h | h
    ·exact .inl h
    ·rcases hneed with h3 | ⟨_,h3⟩
     ·exact .inl h3
     ·by_cases hj0:j=j0
      ·subst hj0;exact absurd (waitsFor_ready h3 hj) (unlisted hiun)
      ·exact .inr (by rw [getD_set_ne true hj0];exact h)
   refine wpOp_mono (fun a' w' h3=>⟨fun hn hl=>h3.2.1 hn (by rw [getD_set_ne true hij];exact hl),ih (listed.setIfInBounds j true) a' w' hfree' (ready_mono hr (Ne.symm hji)) hst' h3.1 ?_ ?_⟩) h2
   ·intro hl
    by_cases hj0:j=j0
    ·subst hj0;rw [listed_set hjun] at hl
     cases hl
    ·rw [getD_set_ne true hj0] at hl;exact h3.2.1 hj0 (by rw [getD_set_ne true hij];exact hl)
   ·rw [Array.setIfInBounds_comm _ _ hji];exact h3.2.2
section
variable {l:List Oper} {i n:Nat} {rest:List (Nat×Nat)} {a:Act} {w:World}
end
end
end Go.Sx
namespace Go.Proofs.YtndjjndllfdklaaGreatDoor
open Go.RowKit Go.Sx
def Drawn (v:Value) (w:World) (e:Ending) (w':World):Prop:=e=.returned v∧∃ n,w'=w.drewN n
theorem ints_next {l m:List Int} (hlen:l.length=m.length) {k:Nat} (hk:k<l.length) (h:l.take k=m.take k) (e:l.getD k 0=m.getD k 0):l.take (k+1)=m.take (k+1):=by
 rw [List.take_succ_eq_append_getElem hk,List.take_succ_eq_append_getElem (by omega),h];have e1:l.getD k 0=l[k]:=by simp [List.getD,hk]
 have e2:m.getD k 0=m[k]:=by simp [List.getD,show k<m.length by omega]
 rw [← e1,← e2,e]
end Go.Proofs.YtndjjndllfdklaaGreatDoor
namespace Go.Sx
open Go.RowKit
section
variable {P:Program} {ops:Array Oper} {Q:Exit→Act→World→Prop} {md:Region.Mode} {S:World→Prop}
theorem wpAnyH_mono {S':World→Prop} (hm:∀ w,S' w→S w):∀ (fuel:Nat) (listed:Array Bool) (a:Act) (w:World),wpAnyH P md ops Q S' fuel listed a w→wpAnyH P md ops Q S fuel listed a w
 | 0,_,_,_,h=>h
 | fuel+1,_,_,_,h=>⟨h.1,fun i hi=>wpOp_mono (fun a' w' h'=>⟨hm _ h'.1,wpAnyH_mono hm fuel _ a' w' h'.2⟩) (h.2 i hi)⟩
section
variable {l:List Oper} {i:Nat} {rest:List (Nat×Bool)} {a:Act} {w:World}
end
end
inductive Plan where
 | done:Plan
 | read (i:Nat) (p:Plan):Plan
 | run (i:Nat) (p:Plan):Plan
 | alt (i:Nat) (p:Plan) (j:Nat) (q:Plan):Plan
 | alt3 (i:Nat) (p:Plan) (j:Nat) (q:Plan) (k:Nat) (r:Plan):Plan
def Plan.size:Plan→Nat
 | .done=>0
 | .read _ p=>p.size+1
 | .run _ p=>p.size+1
 | .alt _ p _ _=>p.size+1
 | .alt3 _ p _ _ _ _=>p.size+1
def wpTree (P:Program) (ops:Array Oper) (Q:Exit→Act→World→Prop):(World→Prop)→Plan→Act→World→Prop
 | _,.done,a,w=>Q .normal a w
 | S,.read i p,a,w=>∃ o v,ops[i]?=some o∧YieldsIf P ops S o v a∧wpTree P ops Q S p (a.put o.dst v) w
 | S,.run i p,a,w=>wpOp P ops Q i (fun a' w'=>∃ S':World→Prop,(∀ w,S' w→S w)∧S' w'∧wpTree P ops Q S' p a' w') a w
 | S,.alt i p j q,a,w=>wpOp P ops Q i (fun a' w'=>∃ S':World→Prop,(∀ w,S' w→S w)∧S' w'∧wpTree P ops Q S' p a' w') a w ∧
   wpOp P ops Q j (fun a' w'=>∃ S':World→Prop,(∀ w,S' w→S w)∧S' w'∧wpTree P ops Q S' q a' w') a w
 | S,.alt3 i p j q k r,a,w=>wpOp P ops Q i (fun a' w'=>∃ S':World→Prop,(∀ w,S' w→S w)∧S' w'∧wpTree P ops Q S' p a' w') a w ∧
   wpOp P ops Q j (fun a' w'=>∃ S':World→Prop,(∀ w,S' w→S w)∧S' w'∧wpTree P ops Q S' q a' w') a w ∧
   wpOp P ops Q k (fun a' w'=>∃ S':World→Prop,(∀ w,S' w→S w)∧S' w'∧wpTree P ops Q S' r a' w') a w
def treeB (md:Region.Mode) (ops:Array Oper):Plan→Array Bool→Bool
 | .done,listed=>(Region.ready md ops listed).isEmpty
 | .read i p,listed=>(Region.ready md ops listed).contains i && Region.free md ops listed i && treeB md ops p (listed.setIfInBounds i true)
 | .run i p,listed=>(Region.ready md ops listed==[i]) && treeB md ops p (listed.setIfInBounds i true)
 | .alt i p j q,listed=>(Region.ready md ops listed==[i,j]) && (p.size==q.size) && treeB md ops p (listed.setIfInBounds i true) && treeB md ops q (listed.setIfInBounds j true)
 | .alt3 i p j q k r,listed=>(Region.ready md ops listed==[i,j,k]) && (p.size==q.size) && (p.size==r.size) && treeB md ops p (listed.setIfInBounds i true) && treeB md ops q (listed.setIfInBounds j true) && treeB md ops r (listed.setIfInBounds k true)
def treePlanB (ops:Array Oper) (plan:Plan):Bool :=
 Region.noSelect ops && (plan.size==ops.size) && treeB .any ops plan (Array.replicate ops.size false)
section
variable {P:Program} {ops:Array Oper} {Q:Exit→Act→World→Prop} {md:Region.Mode} {S:World→Prop}
theorem wpAnyH_of_tree (hs:Region.noSelect ops=true) (hQ:∀ (t:Array Value) c (a:Act) w,Q (.panic c) { a with tmps:=t } w→Q (.panic c) a w) :
  ∀ (plan:Plan) (S:World→Prop) (listed:Array Bool) (a:Act) (w:World),treeB md ops plan listed=true→S w→wpTree P ops Q S plan a w→wpAnyH P md ops Q S plan.size listed a w
 | .done,_,_,_,_,hB,_,h=>wpAnyH_done (by simpa [treeB] using hB) h _
 | .read i p,S,listed,a,w,hB,hS,h=>by
  simp only [treeB,Bool.and_eq_true] at hB;obtain ⟨⟨hr,hf⟩,hB'⟩:=hB;obtain ⟨o,v,ho,hy,h'⟩:=h;exact wpAnyH_take ho hs hf hr (fun c a w hq=>by
   cases hd:o.dst with
   | none=>rw [hd] at hq;exact hq
   | some d=>rw [hd] at hq;exact hQ _ c a w hq) hy hS (wpAnyH_of_tree hs hQ p S _ _ _ hB' hS h')
 | .run i p,S,listed,a,w,hB,hS,h=>by
  simp only [treeB,Bool.and_eq_true,beq_iff_eq] at hB;obtain ⟨hr,hB'⟩:=hB;refine wpAnyH_all hr (by simp) fun j hj=>?_;have:j=i:=by simpa using hj
  subst this;exact wpOp_mono (fun a' w' ⟨S',hm,hS',h'⟩=>⟨hm _ hS',wpAnyH_mono hm _ _ _ _ (wpAnyH_of_tree hs hQ p S' _ _ _ hB' hS' h')⟩) h
 | .alt i p j q,S,listed,a,w,hB,hS,h=>by
  simp only [treeB,Bool.and_eq_true,beq_iff_eq] at hB;obtain ⟨⟨⟨hr,hz⟩,hB1⟩,hB2⟩:=hB;refine wpAnyH_all hr (by simp) fun x hx=>?_
  rcases (by simpa using hx:x=i∨x=j) with rfl | rfl
  ·exact wpOp_mono (fun a' w' ⟨S',hm,hS',h'⟩=>⟨hm _ hS',wpAnyH_mono hm _ _ _ _ (wpAnyH_of_tree hs hQ p S' _ _ _ hB1 hS' h')⟩) h.1
  ·rw [hz];exact wpOp_mono (fun a' w' ⟨S',hm,hS',h'⟩=>⟨hm _ hS',wpAnyH_mono hm _ _ _ _ (wpAnyH_of_tree hs hQ q S' _ _ _ hB2 hS' h')⟩) h.2
 | .alt3 i p j q k r,S,listed,a,w,hB,hS,h=>by
  simp only [treeB,Bool.and_eq_true,beq_iff_eq] at hB;obtain ⟨⟨⟨⟨⟨hr,hz⟩,hz2⟩,hB1⟩,hB2⟩,hB3⟩:=hB;refine wpAnyH_all hr (by simp) fun x hx=>?_
  rcases (by simpa using hx:x=i∨x=j∨x=k) with rfl | rfl | rfl
  ·exact wpOp_mono (fun a' w' ⟨S',hm,hS',h'⟩=>⟨hm _ hS',wpAnyH_mono hm _ _ _ _ (wpAnyH_of_tree hs hQ p S' _ _ _ hB1 hS' h')⟩) h.1
  ·rw [hz];exact wpOp_mono (fun a' w' ⟨S',hm,hS',h'⟩=>⟨hm _ hS',wpAnyH_mono hm _ _ _ _ (wpAnyH_of_tree hs hQ q S' _ _ _ hB2 hS' h')⟩) h.2.1
  ·rw [hz2];exact wpOp_mono (fun a' w' ⟨S',hm,hS',h'⟩=>⟨hm _ hS',wpAnyH_mono hm _ _ _ _ (wpAnyH_of_tree hs hQ r S' _ _ _ hB3 hS' h')⟩) h.2.2
theorem wp_region_tree {id:Nat} {a:Act} {w:World} (S:World→Prop) (plan:Plan) (hm:P.follows .mixedOrders=true) (hB:treePlanB ops plan=true)
  (hQ:∀ (t:Array Value) c (a:Act) w,Q (.panic c) { a with tmps:=t } w→Q (.panic c) a w) (hS:S w.drew) (h:wpTree P ops Q S plan a w.drew):(Code.region id ops true).wp P Q a w:=by
 simp only [treePlanB,Bool.and_eq_true,beq_iff_eq] at hB;obtain ⟨⟨h1,h2⟩,h3⟩:=hB;refine wp_region_held (S:=S) hm ?_;rw [← h2];rw [← h2] at h3;exact wpAnyH_of_tree h1 hQ plan S _ a w.drew h3 hS h
theorem tree_done {a:Act} {w:World} (h:Q .normal a w):wpTree P ops Q S .done a w:=h
section
variable {l:List Oper} {i j k:Nat} {p q r:Plan} {a:Act} {w:World}
theorem tree_read (h:∀ K:Act→Prop,(∀ a,wpTree P l.toArray Q S p a w→K a)→match l[i]? with
  | none=>False
  | some o=>if Region.wanted o (yielded l.toArray a.tmps)=true then ∃ v,(∀ w,S w→(execOp a.eval o).run P w=.ok (.value v) w)∧K (a.put o.dst v) else K (a.put o.dst undef)) :
  wpTree P l.toArray Q S (.read i p) a w:=by
 have h:=h _ fun _ h=>h
 cases ho:l[i]? with
 | none=>rw [ho] at h;exact h.elim
 | some o =>
  rw [ho] at h;have h:if Region.wanted o (yielded l.toArray a.tmps)=true then _ else _:=h
  by_cases hw:Region.wanted o (yielded l.toArray a.tmps)=true
  ·rw [if_pos hw] at h;obtain ⟨v,h1,h2⟩:=h;exact ⟨o,v,by simpa using ho,.inl ⟨hw,h1⟩,h2⟩
  ·rw [if_neg hw] at h;exact ⟨o,undef,by simpa using ho,.inr ⟨by simpa using hw,rfl⟩,h⟩
theorem tree_run (h:∀ K:Act→World→Prop,(∀ a w,(∃ S':World→Prop,(∀ w,S' w→S w)∧S' w∧wpTree P l.toArray Q S' p a w)→K a w)→match l[i]? with
  | none=>False
  | some o=>if Region.wanted o (yielded l.toArray a.tmps)=true then o.wp P a w K Q else K (a.put o.dst undef) w) :
  wpTree P l.toArray Q S (.run i p) a w:=by
 have h:=h _ fun _ _ h=>h;show wpOp P l.toArray Q i _ a w;unfold wpOp;have e:l.toArray[i]?=l[i]?:=by simp
 rw [e]
 cases ho:l[i]? with
 | none=>rw [ho] at h;exact h.elim
 | some o =>
  rw [ho] at h;have h:if Region.wanted o (yielded l.toArray a.tmps)=true then _ else _:=h;show if Region.wanted o (yielded l.toArray a.tmps)=true then _ else _
  by_cases hw:Region.wanted o (yielded l.toArray a.tmps)=true
  ·rw [if_pos hw] at h ⊢;exact .inl h
  ·rw [if_neg hw] at h ⊢;exact h
theorem tree_alt (h1:wpTree P l.toArray Q S (.run i p) a w) (h2:wpTree P l.toArray Q S (.run j q) a w):wpTree P l.toArray Q S (.alt i p j q) a w:=⟨h1,h2⟩
theorem tree_T {o:Oper} (ho:l[i]?=some o) (hw:Region.wanted o (yielded l.toArray a.tmps)=true) (h:∃ v,(∀ w,S w→(execOp a.eval o).run P w=.ok (.value v) w)∧wpTree P l.toArray Q S p (a.put o.dst v) w):wpTree P l.toArray Q S (.read i p) a w :=
 tree_read fun K hK=>by rw [ho];dsimp only;rw [if_pos hw];obtain ⟨v,hv,hk⟩:=h;exact ⟨v,hv,hK _ hk⟩
theorem tree_F {o:Oper} (ho:l[i]?=some o) (hw:Region.wanted o (yielded l.toArray a.tmps)=false) (hk:wpTree P l.toArray Q S p (a.put o.dst undef) w):wpTree P l.toArray Q S (.read i p) a w :=
 tree_read fun K hK=>by rw [ho];dsimp only;rw [if_neg (ne_true_of_eq_false hw)];exact hK _ hk
theorem tree_S {o:Oper} {v:Value} {a':Act} (h:wpTree P l.toArray Q S p a' w) (ho:l[i]?=some o:=by rfl) (hw:Region.wanted o (yielded l.toArray a.tmps)=true:=by rfl)
  (hx:∀ w,S w→(execOp a.eval o).run P w=.ok (.value v) w:=by intro w hSw; (try dsimp only at hSw);go_simp;try with_reducible rfl) (ha:a.put o.dst v=a':=by simp only [Act.put,zqA,zqP,zqQ];rfl):wpTree P l.toArray Q S (.read i p) a w :=
 tree_T ho hw ⟨v,hx,by rw [ha];exact h⟩
theorem tree_N {o:Oper} {a':Act} (h:wpTree P l.toArray Q S p a' w) (ho:l[i]?=some o:=by rfl) (hw:Region.wanted o (yielded l.toArray a.tmps)=false:=by rfl) (ha:a.put o.dst undef=a':=by simp only [Act.put,zqA,zqP,zqQ];rfl):wpTree P l.toArray Q S (.read i p) a w :=
 tree_F ho hw (by rw [ha];exact h)
end
end
end Go.Sx
namespace Go.Proofs.YtndjjndllfdklaaGreatDoor
open Go.RowKit Go.Sx Go.Rq
def Tab (w:World):Prop:=TabAt 0 Lib.deBruijn32tab w
theorem Tab.later {w0 w:World} {P:HP} (h:Tab w0) (hs:Sat w0 w P):Tab w:=fun j hj=>hs.keep (h j hj)
end Go.Proofs.YtndjjndllfdklaaGreatDoor
namespace Go.Sx
open Go.RowKit
theorem Sat.over {w0 w w':World} {P Q:HP} (hs:Sat w0 w P) (h:Sat w w' Q):Sat w0 w' (Q*P):=by
 obtain ⟨hp,p,kp⟩:=hs.own;obtain ⟨hq,q,kq⟩:=h.own;have hb:Below w0.heap.size w0 w':=hs.below.trans (h.below.mono hs.below.size);have up:∀ b o v,hp b o=some v→b<w.heap.size:=fun b o v e=>World.block_lt_of_cell? w _ (kp b o v e).2.1;refine ⟨hb,fun b o=>(hq b o).or (hp b o),?_,?_⟩
 ·refine ⟨hq,hp,fun b o=>?_,fun _ _=>rfl,q,p⟩
  cases e1:hq b o with
  | none=>exact .inl rfl
  | some v =>
   cases e2:hp b o with
   | none=>exact .inr rfl
   | some u =>
    have:=(kq b o v e1).1;have:=up b o u e2;omega
 ·intro b o v e;have e:(hq b o).or (hp b o)=some v:=e
  cases e1:hq b o with
  | some u =>
   rw [e1] at e;obtain rfl:u=v:=by simpa using e
   obtain ⟨k1,k2,k3⟩:=kq b o u e1;exact ⟨Nat.le_trans hs.below.size k1,k2,k3⟩
  | none =>
   rw [e1] at e;have e:hp b o=some v:=by simpa using e
   obtain ⟨k1,k2,k3⟩:=kp b o v e;have hlt:=up b o v e;exact ⟨k1,(h.below.cell (p:=⟨b,o,none⟩) hlt).trans k2,(h.below.frozen (p:=⟨b,o,none⟩) hlt).trans k3⟩
theorem Sat.past {w0 w w':World} {P:HP} (hs:Sat w0 w P) (h:Sat w w' emp):Sat w0 w' P:=(hs.over h).perm (emp_star _)
end Go.Sx
namespace Go.Proofs.YtndjjndllfdklaaGreatDoor
open Go.RowKit Go.Sx Go.Dl Go.Lk Go.Rq Go.Au
end Go.Proofs.YtndjjndllfdklaaGreatDoor
namespace Go.Proofs.YtndjjndllfdklaaGreatDoor
open Go.RowKit Go.Sx Go.Dl Go.Lk Go.Rq Go.Au Go.ChangeShapes Go.WideShapes Go.ChangeAt
set_option linter.constructorNameAsVariable false
theorem wfw64 {n:Int} (h:(Lit.int .u64 n).wf=true):0≤n∧n<18446744073709551616:=by
 have h1:(decide ((0:Int)≤n) && decide (n≤18446744073709551615))=true:=h;simp only [Bool.and_eq_true,decide_eq_true_eq] at h1;omega
section
variable {H:Type} {enc:TypeId×Value→H} {P:Program} {W:World}
theorem trod_flds {t:TypeId} {fs:Array Field} {fuel:Nat} {cs:List Value} {x:DataW H×List MemPlace} (ht:P.underlying t=some (.struct fs)) (h:DataW.trod enc P W 0 (fun _=>true) true fuel t cs=some x) :
  cs.length=P.cellsOf t∧∀ (i:Nat) (f:Field),fs[i]?=some f→∃ n y,DataW.trod enc P W 0 (fun _=>true) true n f.type ((cs.drop f.offset).take (P.cellsOf f.type))=some y:=by
 obtain ⟨xs,n,_,_,hl,hx,hf⟩:=DataW.trod_struct ht h;refine ⟨hl,fun i f e=>⟨n,xs[i]'(by have:=(Array.getElem?_eq_some_iff.1 e).1;omega),?_⟩⟩;rw [hf i f e,List.getElem?_eq_getElem]
theorem take1 {cs:List Value} {o:Nat} (h:o<cs.length):(cs.drop o).take 1=[cs[o]]:=by
 rw [List.drop_eq_getElem_cons h];rfl
theorem fld_one {t:TypeId} {fs:Array Field} {fuel:Nat} {cs:List Value} {x:DataW H×List MemPlace} (ht:P.underlying t=some (.struct fs)) (h:DataW.trod enc P W 0 (fun _=>true) true fuel t cs=some x)
  {T:TypeId} {i o:Nat} (ho:o<P.cellsOf t) (hg:∃ g:Field,fs[i]?=some g∧g.offset=o∧g.type=T∧P.cellsOf T=1):∃ v n y,cs[o]?=some v∧DataW.trod enc P W 0 (fun _=>true) true n T [v]=some y:=by
 obtain ⟨hl,hf⟩:=trod_flds ht h;obtain ⟨g,h1,rfl,rfl,h4⟩:=hg;obtain ⟨n,y,h5⟩:=hf i g h1;have hlt:g.offset<cs.length:=by omega
 rw [h4,take1 hlt] at h5;exact ⟨_,n,y,List.getElem?_eq_getElem hlt,h5⟩
theorem fld_int {t:TypeId} {fs:Array Field} {fuel:Nat} {cs:List Value} {x:DataW H×List MemPlace} (ht:P.underlying t=some (.struct fs)) (h:DataW.trod enc P W 0 (fun _=>true) true fuel t cs=some x)
  {T:TypeId} {κ:IntKind} {i o:Nat} (ho:o<P.cellsOf t) (hT:P.underlying T=some (.int κ)) (hg:∃ g:Field,fs[i]?=some g∧g.offset=o∧g.type=T∧P.cellsOf T=1):∃ m:Int,cs[o]?=some (.int κ m)∧(Lit.int κ m).wf=true:=by
 obtain ⟨v,n,y,h1,h2⟩:=fld_one ht h ho hg;obtain ⟨m,e,_,hw⟩:=DataW.trod_int hT h2;simp only [List.cons.injEq,and_true] at e;exact ⟨m,by rw [h1,e],hw⟩
theorem trod_recs {α:Type} {sz:Nat} [E:Enc α sz] {t e:TypeId} {fuel:Nat} {cs:List Value} {x:DataW H×List MemPlace} (ht:P.underlying t=some (.slice e)) (ce:P.cellsOf e=sz) {G:α→Prop}
  (he:∀ n cs x,DataW.trod enc P W 0 (fun _=>true) true n e cs=some x→∃ a:α,cs=E.enc a∧G a)
  (h:DataW.trod enc P W 0 (fun _=>true) true fuel t cs=some x):∃ v l,cs=[v]∧RdR W v l∧∀ a∈l,G a:=by
 rcases Go.Deep.open_slice ht h with ⟨hcs,_⟩ | ⟨a,len,cap,m,n,D,Pl,hcs,_,hl,hm,hmm,_,hx⟩
 ·exact ⟨_,[],hcs,rdR_nil W,fun a h=>by cases h⟩
 ·simp at hmm;subst hmm;have each:∀ i,i<m→∃ y:α,G y∧∀ c u,(E.enc y)[c]?=some u→W.cell? (a.add (i*sz+c))=some u:=fun i hi=>by
   obtain ⟨cs',h1,h2⟩:=hx i hi;obtain ⟨_,hlen,hcell⟩:=World.cells?_some h1;obtain ⟨y,rfl,hG⟩:=he _ _ _ h2;refine ⟨y,hG,fun c u hu=>?_⟩;have hc:=hcell c (by rw [ce,← E.len y];exact (List.getElem?_eq_some_iff.1 hu).1);rw [Go.Deep.add_add,ce] at hc;rw [hc];exact hu
  haveI:Inhabited α:=⟨E.dft⟩;obtain ⟨f,hf⟩:=Go.Deep.choose_lt each;have hsz:=E.pos;refine ⟨_,(List.range len).map f,hcs,?_,fun y hy=>?_⟩
  ·by_cases h0:0<len
   ·have hpos:0<(E.enc (f 0)).length:=by rw [E.len];exact hsz
    obtain ⟨b,off,rfl⟩:=addr_flat (by simpa using (hf 0 (by omega)).2 0 _ (List.getElem?_eq_getElem hpos));refine ⟨_,m,b,off,by simp,by simpa using hl,hm,fun _=>rfl,fun j u hj=>?_⟩;have hjl:=(List.getElem?_eq_some_iff.1 hj).1;rw [cellsOf_len,List.length_map,List.length_range] at hjl;have e1:j=j / sz*sz+j%sz:=by rw [Nat.mul_comm];exact (Nat.div_add_mod j sz).symm
    have hk:j / sz<len:=(Nat.div_lt_iff_lt_mul hsz).2 hjl;have hc:j%sz<sz:=Nat.mod_lt _ hsz;rw [e1] at hj;rw [cellsOf_at (by simpa using hk) hc] at hj;have hg:((List.range len).map f).getD (j / sz) E.dft=f (j / sz):=by simp [List.getD,hk]
    rw [hg] at hj;have:=(hf (j / sz) (by omega)).2 _ u hj;rw [← e1,Addr.add_lit] at this;exact this
   ·have:len=0:=by omega
    subst this;exact ⟨some a,m,0,0,rfl,by simp,hm,fun h=>absurd (by simp) h,fun j u hj=>by simp [cellsOf] at hj⟩
  ·rw [List.mem_map] at hy;obtain ⟨i,hi,rfl⟩:=hy;exact (hf i (by have:=List.mem_range.1 hi;omega)).1
end
section
variable {H:Type} {enc:TypeId×Value→H} {W:World}
abbrev Trd (enc:TypeId×Value→H) (W:World) (n:Nat) (t:TypeId) (cs:List Value) (x:DataW H×List MemPlace):Prop:=DataW.trod enc Tryz.prog W 0 (fun _=>true) true n t cs=some x
end
end Go.Proofs.YtndjjndllfdklaaGreatDoor
namespace Go.Hi
def at_ (l:List Int) (k:Nat):Int:=l.getD k 0
def whr (l:List Int) (v:Int):Nat:=(l.filter fun b=>decide (b<v)).length
theorem whr_le (l:List Int) (v:Int):whr l v≤l.length:=List.length_filter_le _ _
theorem at_get {l:List Int} {k:Nat} (h:k<l.length):at_ l k=l[k]:=by simp [at_,List.getD,h]
theorem whr_eq {l:List Int} {v:Int} {i:Nat} (hi:i≤l.length) (h1:∀ j,j<i→at_ l j<v) (h2:∀ j,i≤j→j<l.length→v≤at_ l j):whr l v=i:=by
 unfold whr
 conv=>lhs;rw [← List.take_append_drop i l]
 rw [List.filter_append,List.length_append];have e1:(l.take i).filter (fun b=>decide (b<v))=l.take i:=List.filter_eq_self.2 fun a ha=>by
  obtain ⟨j,hj,e⟩:=List.getElem_of_mem ha;have hj1:j<i:=by simp at hj;omega
  have:=h1 j hj1;rw [at_get (by omega)] at this;rw [← e,List.getElem_take];simpa using this
 have e2:(l.drop i).filter (fun b=>decide (b<v))=[]:=List.filter_eq_nil_iff.2 fun a ha=>by
  obtain ⟨j,hj,e⟩:=List.getElem_of_mem ha;have hj1:i+j<l.length:=by simp at hj;omega
  have:=h2 (i+j) (by omega) hj1;rw [at_get hj1] at this;rw [← e,List.getElem_drop];simp;omega
 rw [e1,e2];simp;omega
theorem whr_snoc {l:List Int} {k:Nat} (hk:k<l.length) (v:Int):whr (l.take (k+1)) v=whr (l.take k) v+if at_ l k<v then 1 else 0:=by
 unfold whr;rw [List.take_succ_eq_append_getElem hk,List.filter_append,List.length_append,at_get hk]
 by_cases h:l[k]<v<;>simp [h]
def Up (l:List Int):Prop:=∀ j,j+1<l.length→at_ l j<at_ l (j+1)
theorem Up.mono {l:List Int} (h:Up l):∀ {i j:Nat}, i≤j→j<l.length→at_ l i≤at_ l j := by
  intro i j hij
  induction j with
  | zero => intro _; have:i=0 := by omega
            subst this; exact Int.le_refl _
  | succ j ih =>
    intro hj
    rcases Nat.lt_or_ge i (j+1) with g | g
    · have := ih (by omega) (by omega); have := h j hj; omega
    · have:i=j+1 := by omega
      subst this; exact Int.le_refl _
def Right (l:List Int):Prop:=Up l∧l.length≤32
def satA (s v:Int):Int:=if 18446744073709551616≤s+v then 18446744073709551615 else s+v
def satF (l:List Int):Int:=l.foldl satA 0
theorem satA_rng {s v:Int} (hs:0≤s∧s<18446744073709551616) (hv:0≤v∧v<18446744073709551616):0≤satA s v∧satA s v<18446744073709551616:=by
 unfold satA;split<;>omega
theorem satA_top {v:Int} (hv:0≤v∧v<18446744073709551616):satA 18446744073709551615 v=18446744073709551615:=by
 unfold satA;split<;>omega
theorem satF_top:∀ (l:List Int),(∀ v∈l,0≤v∧v<18446744073709551616)→l.foldl satA 18446744073709551615=18446744073709551615
 | [],_=>rfl
 | v::l,h=>by rw [List.foldl_cons,satA_top (h v (by simp))];exact satF_top l fun u hu=>h u (by simp [hu])
theorem foldl_snoc {α:Type} (f:α→Int→α) (a:α) {l:List Int} {k:Nat} (hk:k<l.length):(l.take (k+1)).foldl f a=f ((l.take k).foldl f a) (at_ l k):=by
 rw [List.take_succ_eq_append_getElem hk,List.foldl_append,at_get hk];rfl
theorem satF_cut {l:List Int} {k:Nat} (h:∀ v∈l,0≤v∧v<18446744073709551616) (hk:k<l.length) (ho:18446744073709551616≤(l.take k).foldl satA 0+at_ l k):satF l=18446744073709551615:=by
 unfold satF
 conv=>lhs;rw [← List.take_append_drop (k+1) l]
 rw [List.foldl_append,foldl_snoc satA 0 hk];rw [show satA ((l.take k).foldl satA 0) (at_ l k)=18446744073709551615 from if_pos ho];exact satF_top _ fun v hv=>h v (List.mem_of_mem_drop hv)
def cntA (bd C:List Int) (v:Int):List Int:=C.set (whr bd v) ((at_ C (whr bd v)+1)%18446744073709551616)
def cntF (bd l:List Int):List Int:=l.foldl (cntA bd) (List.replicate (bd.length+1) 0)
theorem cntA_len (bd C:List Int) (v:Int):(cntA bd C v).length=C.length:=by simp [cntA]
theorem fold_len (bd:List Int):∀ (l C:List Int),(l.foldl (cntA bd) C).length=C.length
 | [],_=>rfl
 | v::l,C=>by rw [List.foldl_cons,fold_len bd l,cntA_len]
theorem cntA_rng {bd C:List Int} {v:Int} (h:∀ x∈C,0≤x∧x<18446744073709551616):∀ x∈cntA bd C v,0≤x∧x<18446744073709551616:=fun x hx=>by
 rcases List.mem_or_eq_of_mem_set hx with e | e
 ·exact h x e
 ·subst e;exact ⟨Int.emod_nonneg _ (by decide),Int.emod_lt_of_pos _ (by decide)⟩
theorem at_rng {C:List Int} (h:∀ x∈C,0≤x∧x<18446744073709551616) (k:Nat):0≤at_ C k∧at_ C k<18446744073709551616:=by
 unfold at_
 by_cases hk:k<C.length
 ·rw [List.getD,List.getElem?_eq_getElem hk];exact h _ (List.getElem_mem hk)
 ·rw [List.getD,List.getElem?_eq_none (by omega)];decide
structure Jb where
 task:Int
 num:Int
 rel:Int
 fin:Int
 ended:Bool
 missed:Bool
 lower:Int
 bound:Int
 tidy:Bool
def jb0:Jb:=⟨0,0,0,0,false,false,0,0,false⟩
def jg (l:List Jb) (k:Nat):Jb:=l.getD k jb0
def tks (t:Int) (l:List Jb):List Int:=(l.filter fun j=>j.ended && decide (j.task=t)).map fun j=>(j.fin-j.rel)%18446744073709551616
theorem tks_snoc (t:Int) {l:List Jb} {k:Nat} (hk:k<l.length):tks t (l.take (k+1))=tks t (l.take k)++if (jg l k).ended=true∧(jg l k).task=t then [((jg l k).fin-(jg l k).rel)%18446744073709551616] else []:=by
 have e:jg l k=l[k]:=by simp [jg,List.getD,hk]
 unfold tks;rw [List.take_succ_eq_append_getElem hk,List.filter_append,List.map_append,e]
 congr 1
 by_cases h1:l[k].ended=true<;>by_cases h2:l[k].task=t<;>simp [h1,h2]
theorem tks_rng (t:Int) (l:List Jb):∀ v∈tks t l,0≤v∧v<18446744073709551616:=fun v hv=>by
 unfold tks at hv;obtain ⟨j,_,rfl⟩:=List.mem_map.1 hv;exact ⟨Int.emod_nonneg _ (by decide),Int.emod_lt_of_pos _ (by decide)⟩
theorem tks_len (t:Int) (l:List Jb):(tks t l).length≤l.length:=by unfold tks;rw [List.length_map];exact List.length_filter_le _ _
end Go.Hi
namespace Go.Proofs.YtndjjndllfdklaaGreatDoor
open Go.RowKit Go.Sx Go.Hi
theorem cmpNaN (v:Int) (w:World):Calls Tryz.prog 332 #[.int .u64 v] w fun e w'=>e=.returned (.bool false)∧w=w':=by
 go_enter Tryz.func332,Tryz.ntmps332
 go_wp2_with fail;go_ret;exact ⟨by simp,rfl⟩
theorem slNaN (v:Int) (w:World):Calls Tryz.prog 320 #[.int .u64 v] w fun e w'=>e=.returned (.bool false)∧w=w':=by
 go_enter Tryz.func320,Tryz.ntmps320
 go_wp2_with fail;go_ret;exact ⟨by simp,rfl⟩
theorem cmpLess (a b:Int) (w:World):Calls Tryz.prog 319 #[.int .u64 a,.int .u64 b] w fun e w'=>e=.returned (.bool (decide (a<b)))∧w=w':=by
 go_enter Tryz.func319,Tryz.ntmps319
 go_wp2_with fail;refine (cmpNaN a _).mono ?_;rintro e w' ⟨rfl,rfl⟩;go_wp2_with fail;go_ret;exact ⟨by simp,rfl⟩
def BsP (l:List Int) (v:Int) (w:World) (e:Ending) (w':World):Prop:=∃ z:Bool,e=.returned (.tuple #[.int .i64 (whr l v),.bool z])∧w=w'
theorem bs_end (l:List Int) (v:Int) {a:Nat} (hu:Up l) (ha:a≤l.length) (h1:∀ j,j<a→at_ l j<v) (h2:∀ j,a≤j→j<l.length→v≤at_ l j) (w:World) (z:Bool):BsP l v w (.returned (.tuple #[.int .i64 a,.bool z])) w:=⟨z,by rw [whr_eq ha h1 h2],rfl⟩
theorem binSearch (v:Value) (l:List Int) (x:Int) (w:World) (h:RdN .u64 w v l) (hu:Up l) (hl:l.length≤1000) (hr:∀ y∈l,0≤y∧y<18446744073709551616) (hx:0≤x∧x<18446744073709551616) :
  Calls Tryz.prog 279 #[v,.int .u64 x] w (BsP l x w):=by
 obtain ⟨a,cap,b,off,rfl,hcap,hbig,ha,hc⟩:=h;unfold maxLen at hbig;have Hu:=hid hu;clear hu;have Hr:=hid hr;clear hr;have hx0:=hx.1;have hx1:=hx.2
 go_enter Tryz.func279,Tryz.ntmps279
 go_wp2_with fail
 go_loop [7,8] (fun i j=>∃ p q:Nat,p≤q∧q≤l.length∧i=.int .i64 p∧j=.int .i64 q∧Hid ((∀ k,k<p→at_ l k<x)∧∀ k,q≤k→k<l.length→x≤at_ l k)) (fun i j=>(intOf j).toNat-(intOf i).toNat)
 case atStart=>exact ⟨0,l.length,Nat.zero_le _,Nat.le_refl _,rfl,rfl,hid ⟨fun k hk=>by omega,fun k h1 h2=>by omega⟩⟩
 case round =>
  obtain ⟨p,q,hpq,hq,rfl,rfl,hI⟩:=hrel
  by_cases hlt:p<q
  ·obtain ⟨m,hm⟩:∃ m:Nat,m=(p+q) / 2:=⟨_,rfl⟩;have hm1:p≤m:=by omega
   have hm2:m<q:=by omega
   have hme:((p:Int)+(q:Int)) / 2=(m:Int):=by omega
   clear hm;have hml:m<l.length:=by omega
   obtain rfl:=ha (by intro e;simp [e] at hml);have c1:=hc m hml;have e1:at_ l m=l[m]:=at_get hml;have Ha:=hid (show l.getD m 0=at_ l m from rfl);have hd:decide (p<q)=true:=decide_eq_true hlt;have hs1:(((p:Int)+(q:Int))).toNat=p+q:=by omega
   go_wp2_with fail;rw [← e1];refine (cmpLess (at_ l m) x w).mono ?_;rintro e w' ⟨rfl,rfl⟩
   by_cases hb:at_ l m<x
   ·have hbd:decide (at_ l m<x)=true:=decide_eq_true hb;go_wp2_with fail
    go_round
    case rel=>exact ⟨m+1,q,by omega,hq,by go_num,rfl,hid ⟨fun k hk=>Int.lt_of_le_of_lt (Hu.out.mono (show k≤m by omega) hml) hb,hI.out.2⟩⟩
    case measure=>simp only [intOf];omega
   ·have hbd:decide (at_ l m<x)=false:=decide_eq_false hb;go_wp2_with fail
    go_round
    case rel=>exact ⟨p,m,hm1,by omega,rfl,rfl,hid ⟨hI.out.1,fun k h1 h2=>Int.le_trans (by omega) (Hu.out.mono h1 h2)⟩⟩
    case measure=>simp only [intOf];omega
  ·have hpq':p=q:=by omega
   subst hpq';have hd:decide ((p:Int)<(p:Int))=false:=decide_eq_false (by omega);have ends:∀ z,BsP l x w (.returned (.tuple #[.int .i64 p,.bool z])) w:=fun z=>bs_end l x Hu.out hq hI.out.1 hI.out.2 w z;replace ends:=hid ends
   by_cases hl2:p<l.length
   ·have hd2:decide ((p:Int)<(l.length:Int))=true:=decide_eq_true (by omega);obtain rfl:=ha (by intro e;simp [e] at hl2);have c1:=hc p hl2;clear hc ha
    by_cases he:l[p]=x
    ·have hbe:(l[p]==x)=true:=by simpa using he
     go_wp2_with fail
     all_goals (go_ret2;exact ends.out _)
    ·have hbe:(l[p]==x)=false:=by simpa using he
     go_wp2_with fail;refine (slNaN _ w).mono ?_;rintro e w' ⟨rfl,rfl⟩;go_wp2_with fail
     all_goals (go_ret2;exact ends.out _)
   ·have hd2:decide ((p:Int)<(l.length:Int))=false:=decide_eq_false (by omega);go_wp2_with fail;go_ret2;exact ends.out _
theorem at_def {l:List Int} {k:Nat}:l.getD k 0=at_ l k:=rfl
theorem rWhere (v:Value) (l:List Int) (x:Int) (w:World) (h:RdN .u64 w v l) (hl:l.length≤1000) :
  Calls Tryz.prog 150 #[v,.int .u64 x] w fun e w'=>e=.returned (.int .i64 (whr l x))∧w=w':=by
 obtain ⟨a,cap,b,off,rfl,hcap,hbig,ha,hc⟩:=h;unfold maxLen at hbig
 go_enter Tryz.func150,Tryz.ntmps150
 go_wp2_with fail
 go_loop [5,6] (fun n i=>∃ k c:Nat,k≤l.length∧c≤k∧n=.int .i64 c∧i=.int .i64 k∧Hid (c=whr (l.take k) x)) (fun _ i=>l.length-(intOf i).toNat)
 case atStart=>exact ⟨0,0,Nat.zero_le _,Nat.le_refl _,rfl,rfl,hid rfl⟩
 case round =>
  obtain ⟨k,c,hk,hck,rfl,rfl,hI⟩:=hrel
  by_cases hlt:k<l.length
  ·obtain rfl:=ha (by intro e;simp [e] at hlt);have c1:=hc k hlt;rw [at_def] at c1;have hn:=hid (whr_snoc hlt x);generalize at_ l k=y at c1 hn;clear hc ha
   by_cases hb:y<x
   ·have hd:decide (y<x)=true:=decide_eq_true hb;go_wp2_with fail
    go_round
    case rel=>exact ⟨k+1,c+1,by omega,by omega,by go_num,by go_num,hid (by rw [hn.out,← hI.out,if_pos hb])⟩
    case measure=>simp [intOf];omega
   ·have hd:decide (y<x)=false:=decide_eq_false hb;go_wp2_with fail
    go_round
    case rel=>exact ⟨k+1,c,by omega,by omega,rfl,by go_num,hid (by rw [hn.out,← hI.out,if_neg hb];rfl)⟩
    case measure=>simp [intOf];omega
  ·clear hc ha;go_wp2_with fail;go_ret;have e:l.take k=l:=List.take_of_length_le (by omega);exact ⟨by rw [hI.out,e];rfl,rfl⟩
theorem rSum (v:Value) (l:List Int) (w:World) (h:RdN .u64 w v l) (hr:∀ y∈l,0≤y∧y<18446744073709551616) (hl:l.length≤1000) :
  Calls Tryz.prog 63 #[v] w fun e w'=>e=.returned (.int .u64 (satF l))∧w=w':=by
 obtain ⟨a,cap,b,off,rfl,hcap,hbig,ha,hc⟩:=h;unfold maxLen at hbig;have Hr:=hid hr;clear hr
 go_enter Tryz.func63,Tryz.ntmps63
 go_wp2_with fail
 go_loop [3,4] (fun n i=>∃ (k:Nat) (s:Int),k≤l.length∧(0≤s∧s<18446744073709551616)∧n=.int .u64 s∧i=.int .i64 k∧Hid (s=(l.take k).foldl satA 0)) (fun _ i=>l.length-(intOf i).toNat)
 case atStart=>exact ⟨0,0,Nat.zero_le _,by decide,rfl,rfl,hid rfl⟩
 case round =>
  obtain ⟨k,s,hk,⟨hs0,hs1⟩,rfl,rfl,hI⟩:=hrel
  by_cases hlt:k<l.length
  ·obtain rfl:=ha (by intro e;simp [e] at hlt);have c1:=hc k hlt;rw [at_def] at c1;have hn:=hid (foldl_snoc satA 0 hlt);have hcut:=hid (satF_cut Hr.out hlt);obtain ⟨y0,y1⟩:=at_rng Hr.out k;rw [← hI.out] at hn hcut;generalize at_ l k=y at c1 hn hcut y0 y1;clear hc ha
   by_cases hb:18446744073709551615-s<y
   ·have hd:decide (18446744073709551615-s<y)=true:=decide_eq_true hb;go_wp2_with fail;go_ret;exact ⟨by rw [hcut.out (by omega)];rfl,rfl⟩
   ·have hd:decide (18446744073709551615-s<y)=false:=decide_eq_false hb;have hno:¬ 18446744073709551616≤s+y:=by omega
    go_wp2_with fail
    go_round
    case rel=>exact ⟨k+1,s+y,by omega,by omega,by go_num,by go_num,hid (by rw [hn.out];unfold satA;rw [if_neg hno])⟩
    case measure=>simp [intOf];omega
  ·clear hc ha;go_wp2_with fail;go_ret;have e:l.take k=l:=List.take_of_length_le (by omega);exact ⟨by rw [hI.out,e];rfl,rfl⟩
theorem rRight (v:Value) (l:List Int) (w:World) (h:RdN .u64 w v l) (hl:l.length≤1000) :
  Calls Tryz.prog 59 #[v] w fun e w'=>∃ z:Bool,(z=true↔Right l)∧Drawn (.bool z) w e w':=by
 obtain ⟨a,cap,b,off,rfl,hcap,hbig,ha,hc⟩:=h;unfold maxLen at hbig
 go_enter Tryz.func59,Tryz.ntmps59
 go_wp2_with fail
 go_loopw [3] (fun i wr=>∃ k n:Nat,1≤k∧k≤l.length+1∧i=.int .i64 k∧Hid (∀ j,j+1<k→j+1<l.length→at_ l j<at_ l (j+1))∧wr=w.drewN n) (fun i _=>l.length+1-(intOf i).toNat)
 case atStart=>exact ⟨1,0,Nat.le_refl _,by omega,rfl,hid fun j hj=>absurd hj (by omega),rfl⟩
 case round =>
  obtain ⟨k,n,hk1,hk,rfl,hI,rfl⟩:=hrel
  by_cases hlt:k<l.length
  ·obtain rfl:=ha (by intro e;simp [e] at hlt);obtain ⟨m,rfl⟩:∃ m,k=m+1:=⟨k-1,by omega⟩;have c1:=hc (m+1) hlt;have c2:=hc m (by omega);rw [at_def] at c1 c2;have hn:=hid (show at_ l m<at_ l (m+1)→∀ j,j+1<m+1+1→j+1<l.length→at_ l j<at_ l (j+1) from fun hlt j h1 h2=>by
    by_cases e:j=m
    ·subst e;exact hlt
    ·exact hI.out j (by omega) h2)
   have hno:=hid (show ¬ at_ l m<at_ l (m+1)→¬ Right l from fun h hR=>h (hR.1 m hlt));have w1:IntKind.i64.wrap (((m+1:Nat):Int)-1)=m:=by rw [IntKind.wrap_i64];omega
   have p1:(((m+1:Nat):Int)-1)=(m:Int):=by omega
   generalize at_ l m=y at c2 hn hno;generalize at_ l (m+1)=x at c1 hn hno;clear hc ha
   by_cases hb:x≤y
   ·have hd:decide (x≤y)=true:=decide_eq_true hb;go_wp2_with fail;go_quiet (fail);go_wp2_with fail;go_ret;exact ⟨false,⟨by simp,fun h=>absurd h (hno.out (by omega))⟩,rfl,n+nq,by simp⟩
   ·have hd:decide (x≤y)=false:=decide_eq_false hb;go_wp2_with fail;go_quiet (fail);go_wp2_with fail;go_roundw
    case rel=>exact ⟨m+1+1,_,by omega,by omega,by go_num,hid (hn.out (by omega)),rfl⟩
    case measure=>simp [intOf];omega
  ·clear hc ha;have hu:=hid (show Up l from fun j hj=>hI.out j (by omega) hj);go_wp2_with fail;go_ret;exact ⟨decide ((l.length:Int)≤32),by simp [Right,hu.out];omega,rfl,_,rfl⟩
theorem u_next {l m:List Int} (hlen:l.length=m.length) {k:Nat} (hk:k<l.length) (h:l.take k=m.take k) (e:l.getD k 0=m.getD k 0):l.take (k+1)=m.take (k+1):=by
 rw [List.take_succ_eq_append_getElem hk,List.take_succ_eq_append_getElem (by omega),h];have e1:l.getD k 0=l[k]:=by simp [List.getD,hk]
 have e2:m.getD k 0=m[k]:=by simp [List.getD,show k<m.length by omega]
 rw [← e1,← e2,e]
theorem rSame (v u:Value) (l m:List Int) (w:World) (h:RdN .u64 w v l) (hm:RdN .u64 w u m) :
  Calls Tryz.prog 56 #[v,u] w (Drawn (.bool (decide (l=m))) w):=by
 obtain ⟨a,cap,b,off,rfl,hcap,hbig,ha,hc⟩:=h;obtain ⟨la,lcap,lb,loff,rfl,hlcap,hlbig,hla,hlc⟩:=hm;unfold maxLen at hbig hlbig
 by_cases hlen:l.length=m.length
 ·have hb:((l.length:Int) != (m.length:Int))=false:=by simp [hlen]
  have hlen':=hid hlen;clear hlen
  go_enter Tryz.func56,Tryz.ntmps56
  go_wp2_with fail
  go_loopw [5] (fun i wr=>∃ k n:Nat,k≤l.length∧i=.int .i64 k∧l.take k=m.take k∧wr=w.drewN n) (fun i _=>l.length-(intOf i).toNat)
  case atStart=>exact ⟨0,0,Nat.zero_le _,rfl,rfl,rfl⟩
  case round =>
   obtain ⟨k,n,hk,rfl,heq,rfl⟩:=hrel;have heq:=hid heq
   by_cases hlt:k<l.length
   ·have hlt2:k<m.length:=by have:=hlen'.out;omega
    obtain rfl:=ha (by intro h;simp [h] at hlt);obtain rfl:=hla (by intro h;simp [h] at hlt2);have c1:=hc k hlt;have c2:=hlc k hlt2;have hnext:=hid (fun e=>u_next hlen'.out hlt heq.out e);have hne:Hid (l.getD k 0≠m.getD k 0→l≠m):=fun h e=>h (by rw [e]);generalize l.getD k 0=x at c1 hnext hne;generalize m.getD k 0=y at c2 hnext hne;clear hc hlc ha hla
    by_cases hxy:x=y
    ·have hb2:(x != y)=false:=by simp [hxy]
     have hxy:=hid hxy;go_wp2_with fail;go_quiet (fail);go_wp2;go_roundw
     case rel=>exact ⟨k+1,_,by omega,by go_num,hnext.out hxy.out,rfl⟩
     case measure=>simp [intOf];omega
    ·have hb2:(x != y)=true:=by simp [hxy]
     have hd:decide (l=m)=false:=decide_eq_false (hne.out hxy);go_wp2_with fail;go_quiet (fail);go_wp2;go_ret;exact ⟨by rw [hd];rfl,n+nq,by simp⟩
   ·have hd:decide (l=m)=true:=decide_eq_true (by have h1:=heq.out;rw [List.take_of_length_le (by omega),List.take_of_length_le (by have:=hlen'.out;omega)] at h1;exact h1);clear hc hlc ha hla;go_wp2_with fail;go_ret;exact ⟨by rw [hd];rfl,_,rfl⟩
 ·have hb:((l.length:Int) != (m.length:Int))=true:=by simp;omega
  have hd:decide (l=m)=false:=decide_eq_false (fun e=>hlen (by rw [e]));clear hc hlc ha hla
  go_enter Tryz.func56,Tryz.ntmps56
  go_wp2_with fail;go_ret;exact ⟨by rw [hd];rfl,0,rfl⟩
theorem elemW:ElemT Tryz.prog 103 26 1 8 (.int .u64 0):=⟨by kernel_rfl,by kernel_rfl,rfl⟩
instance:Elem Tryz.prog 103 .u64 26 8 (.int .u64 0):=⟨elemW,by decide⟩
theorem cloneW (v:Value) (l:List Int) (w0 w:World) (F:HP) (hs:Sat w0 w F) (h:RdN .u64 w v l) (hl:l.length≤1000000) :
  Calls Tryz.prog 149 #[v] w (Ret w0 fun v'=>numsP .u64 v' l*F):=by
 obtain ⟨a,cap,b,off,rfl,hcap,hbig,ha,hc⟩:=id h;have hnw:=h.news;clear hc ha;have q:∀ (w:World) (a:Option Addr) (n c:Nat),(binOp .eql 103 (.slice a n c) (.slice none 0 0)).run Tryz.prog w=.ok (.bool a.isNone) w:=fun w a n c=>Lib.run_eql_slice_nil w _ _ a n c 0 0 Tryz.underlying103
 cases a with
 | none =>
  have h0:=hnw.2.1 rfl;have hl0:l=[]:=List.eq_nil_of_length_eq_zero h0;subst hl0;clear h hnw
  go_enter Tryz.func149,Tryz.ntmps149
  go_wp2;go_ret;exact ⟨_,rfl,hs.slice_nil 1⟩
 | some ad =>
  go_enter Tryz.func149,Tryz.ntmps149
  go_wp2_with (at_builtin;refine wpList_append_sat (by rfl) (.tmp 5) (.tmp 6) (by rfl) elemW (by rfl) (hs.empty_slice 1 26) (some ad) l.length cap (l.map (Value.int .u64)) (by rfl) (by simp) (by simp) (fun a' ha' j u hj=>cell_alloc (hnw.2.2 a' ha' j u hj) _) (oneCell_ints l) (by unfold maxLen;omega) (by omega) ?_);intro v' w' hs' _;go_wp2;go_ret;exact ⟨_,rfl,by simpa [numsP] using hs'⟩
def hiP (b:Nat) (ba:Option Addr) (bc g cc:Nat) (all sum le tp:Int) (B C:List Int):HP :=
 pts b 0 [.slice ba B.length bc,.slice (some ⟨g,0,none⟩) C.length cc,.int .u64 all,.int .u64 sum,.int .u64 le,.int .u64 tp]*(numsP .u64 (.slice ba B.length bc) B*numsP .u64 (.slice (some ⟨g,0,none⟩) C.length cc) C)
theorem hMore (x y:Int) (w:World) (hx:0≤x∧x<18446744073709551616) (hy:0≤y∧y<18446744073709551616) :
  Calls Tryz.prog 211 #[.int .u64 x,.int .u64 y] w fun e w'=>e=.returned (.int .u64 (satA x y))∧w=w':=by
 have hd:(callFunc 280 #[.int .u64 x,.int .u64 y,.int .u64 0]).run Tryz.prog w=.ok (.value (.tuple #[.int .u64 ((x+y+0)%18446744073709551616),.int .u64 ((x+y+0) / 18446744073709551616)])) w:=by
  rw [run_callFunc_extern Tryz.func280 (by kernel_rfl) (by kernel_rfl) (by kernel_rfl) (e:=add64Entry) (by kernel_rfl),run_add64 x y 0 (by omega) (by omega) (by omega) (by omega)]
  rfl
 unfold satA
 by_cases h:18446744073709551616≤x+y
 ·have e1:(x+y+0)%18446744073709551616=x+y-18446744073709551616:=by omega
  have e2:(x+y+0) / 18446744073709551616=1:=by omega
  rw [e1,e2] at hd;rw [if_pos h];clear e1 e2
  go_enter Tryz.func211,Tryz.ntmps211
  go_wp2_with fail;go_ret;exact ⟨rfl,rfl⟩
 ·have e1:(x+y+0)%18446744073709551616=x+y:=by omega
  have e2:(x+y+0) / 18446744073709551616=0:=by omega
  rw [e1,e2] at hd;rw [if_neg h];clear e1 e2
  go_enter Tryz.func211,Tryz.ntmps211
  go_wp2_with fail;go_ret;exact ⟨rfl,rfl⟩
section
variable (b:Nat) (ba:Option Addr) (bc g cc:Nat) (all sum le tp:Int) (B C:List Int) (w0 w:World) (F:HP) (hs:Sat w0 w (hiP b ba bc g cc all sum le tp B C*F))
include hs
theorem hWhere (hu:Up B) (hl:B.length≤1000) (hr:∀ y∈B,0≤y∧y<18446744073709551616) (x:Int) (hx:0≤x∧x<18446744073709551616) :
  Calls Tryz.prog 210 #[.pointer (some ⟨b,0,none⟩),.int .u64 x] w fun e w'=>e=.returned (.int .i64 (whr B x))∧w=w':=by
 unfold hiP at hs;have hB:=hid (fun (w:World) (h:RdN .u64 w (.slice ba B.length bc) B)=>binSearch _ B x w h hu hl hr hx);clear hu hr hl hx
 go_enter Tryz.func210,Tryz.ntmps210
 go_wp2_with fail;refine (hB.out _ rd).mono ?_;rintro e w' ⟨z,rfl,rfl⟩;go_wp2_with fail;go_ret;exact ⟨rfl,rfl⟩
theorem hCounts (hC:C.length≤1000):Calls Tryz.prog 60 #[.pointer (some ⟨b,0,none⟩)] w (Ret w0 fun v=>numsP .u64 v C*(hiP b ba bc g cc all sum le tp B C*F)):=by
 unfold hiP at hs ⊢
 go_enter Tryz.func60,Tryz.ntmps60
 go_wp2_with fail;refine (cloneW _ C w0 _ _ hs rd (by omega)).mono ?_;rintro e w' ⟨v,rfl,hs1⟩;go_wp2_with fail;go_ret;exact ⟨_,rfl,hs1⟩
theorem hSum:Calls Tryz.prog 62 #[.pointer (some ⟨b,0,none⟩)] w fun e w'=>e=.returned (.int .u64 sum)∧w=w':=by
 unfold hiP at hs
 go_enter Tryz.func62,Tryz.ntmps62
 go_wp2_with fail;go_ret;exact ⟨rfl,rfl⟩
end
end Go.Proofs.YtndjjndllfdklaaGreatDoor
