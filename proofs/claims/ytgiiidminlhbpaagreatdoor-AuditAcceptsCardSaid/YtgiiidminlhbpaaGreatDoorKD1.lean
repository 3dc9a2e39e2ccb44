/-
  Parts of the proof: Rec Copy Region RegionB DeltaA DeltaB Wait DelC.
-/
import Derived.Laws.IdiomCopy
import Derived.Lib.Overlaps
import Derived.Lib.AppendZerosOnto
import Derived.OrdersHeld
import Derived.RegionTactic
import Derived.Test.YtgiiidminlhbpaaGreatDoorProg
import Derived.Deep.QuietTactic
import Derived.BigQuiet
import Derived.WalkSpells
import Derived.StillTailTactics
import Derived.Deep.DeepCutAuto
import Derived.Deep.CutBlock
import Derived.Laws.Externs
import Derived.Shelf.Abstract
import Derived.Test.YtgiiidminlhbpaaGreatDoorKD0
set_option linter.unusedVariables false
set_option linter.unusedSimpArgs false
set_option maxHeartbeats 32000000
set_option maxRecDepth 100000
namespace Go.Sx
open Go.RowKit
class Enc (α:Type) (sz:outParam Nat) where
 enc:α→List Value
 len:∀ x,(enc x).length=sz
 one:∀ x, ∀ u∈enc x,u.oneCell'=true
 dft:α
 pos:0<sz
class z1v {α:Type} {sz:Nat} [E:Enc α sz] (x:α) (c:Nat) (v:outParam Value):Prop where
 at_:(E.enc x)[c]?=some v
class z4e {α:Type} {sz:Nat} [E:Enc α sz] (x:α) (c:Nat) (v:Value) (x':outParam α):Prop where
 set_:E.enc x'=(E.enc x).set c v
 lt:c<sz
section
variable {α:Type} {sz:Nat} [E:Enc α sz]
def cellsOf (l:List α):List Value:=l.flatMap E.enc
theorem z1e:cellsOf ([]:List α)=[]:=rfl
theorem zy (x:α) (l:List α):cellsOf (x::l)=E.enc x++cellsOf l:=by simp [cellsOf]
theorem z0g (l m:List α):cellsOf (l++m)=cellsOf l++cellsOf m:=by simp [cellsOf]
theorem zJ (l:List α):(cellsOf l).length=l.length*sz:=by
 induction l with
 | nil=>simp [cellsOf]
 | cons x l ih=>rw [zy,List.length_append,E.len,ih,List.length_cons,Nat.add_mul];omega
theorem z1f (l:List α):∀ u∈cellsOf l,u.oneCell'=true:=by
 intro u hu;obtain ⟨x,_,h⟩:=List.mem_flatMap.1 hu;exact E.one x u h
theorem z0Y {l:List α} {k c:Nat} (hk:k<l.length) (hc:c<sz):(cellsOf l)[k*sz+c]?=(E.enc (l.getD k E.dft))[c]?:=by
 induction l generalizing k with
 | nil=>simp at hk
 | cons x l ih =>
  rw [zy]
  cases k with
  | zero=>rw [Nat.zero_mul,Nat.zero_add,List.getElem?_append_left (by rw [E.len];exact hc)];simp [List.getD]
  | succ k =>
   rw [List.getElem?_append_right (by rw [E.len,Nat.add_mul];omega),E.len,show (k+1)*sz+c-sz=k*sz+c by rw [Nat.add_mul];omega,ih (by simpa using hk)];simp [List.getD]
theorem z6I {l:List α} {k c:Nat} {v:Value} {x':α} (hk:k<l.length) (hc:c<sz) (h:E.enc x'=(E.enc (l.getD k E.dft)).set c v):(cellsOf l).set (k*sz+c) v=cellsOf (l.set k x'):=by
 induction l generalizing k with
 | nil=>simp at hk
 | cons x l ih =>
  cases k with
  | zero =>
   rw [List.set_cons_zero,zy,zy,h,Nat.zero_mul,Nat.zero_add,List.set_append_left _ _ (by rw [E.len];exact hc)];simp [List.getD]
  | succ k =>
   rw [List.set_cons_succ,zy,zy,List.set_append_right _ _ (by rw [E.len,Nat.add_mul];omega),E.len,show (k+1)*sz+c-sz=k*sz+c by rw [Nat.add_mul];omega,ih (by simpa using hk) (by simpa [List.getD] using h)]
def zdw (b o:Nat) (l:List α):HP:=pts b o (cellsOf l)
def z7 (v:Value) (l:List α):HP:=zX sz v l.length (cellsOf l)
def RdR (w:World) (v:Value) (l:List α):Prop :=
 ∃ a cap b off,v=.slice a l.length cap∧l.length≤cap∧cap≤maxLen∧(l≠[]→a=some ⟨b,off,none⟩)∧∀ j u,(cellsOf l)[j]?=some u→w.cell? ⟨b,off+j,none⟩=some u
theorem Sat.recs_form {w0 w:World} {F:HP} {v:Value} {l:List α} (hs:Sat w0 w (z7 v l*F)):∃ a cap,v=.slice a l.length cap:=hs.slice_form
theorem Sat.rdR {w0 w:World} {F:HP} {v:Value} {l:List α} (hs:Sat w0 w (z7 v l*F)):RdR w v l:=by
 rcases hs.slice_out with ⟨rfl,h0,h1,_⟩ | ⟨g,off,cap,sp,rfl,hc,hcm,hx,hsp,hs'⟩
 ·have:l=[]:=List.eq_nil_of_length_eq_zero h0;subst this;exact ⟨none,0,0,0,rfl,Nat.le_refl _,Nat.zero_le _,fun h=>absurd rfl h,fun j u hj=>by simp [cellsOf] at hj⟩
 ·exact ⟨_,cap,g,off,rfl,hc,hcm,fun _=>rfl,fun j u hj=>hs'.cell (by rw [List.getElem?_append_left (List.getElem?_eq_some_iff.1 hj).1];exact hj)⟩
theorem RdR.later {w0 w:World} {v:Value} {l:List α} {P:HP} (h:RdR w0 v l) (hs:Sat w0 w P):RdR w v l:=by
 obtain ⟨a,cap,b,off,h1,h2,h3,h4,h5⟩:=h;exact ⟨a,cap,b,off,h1,h2,h3,h4,fun j u hj=>hs.keep (h5 j u hj)⟩
theorem RdR.caps {w:World} {ad:Option Addr} {n c:Nat} {l:List α} (h:RdR w (.slice ad n c) l):n=l.length∧n≤c∧c≤maxLen:=by
 obtain ⟨a,cap,b,o,e,h3,h4,_⟩:=h;simp only [Value.slice.injEq] at e;obtain ⟨rfl,rfl,rfl⟩:=e;exact ⟨rfl,h3,h4⟩
theorem RdR.news {w:World} {a:Option Addr} {n cap:Nat} {l:List α} (h:RdR w (.slice a n cap) l) :
  n=l.length∧(a=none→n=0)∧∀ ad,a=some ad→∀ j u,(cellsOf l)[j]?=some u→w.cell? (ad.add j)=some u:=by
 obtain ⟨a',cap',b,off,h1,h2,h3,h4,h5⟩:=h;simp only [Value.slice.injEq] at h1;obtain ⟨rfl,rfl,rfl⟩:=h1;have hne:0<l.length→l≠[]:=fun h e=>by simp [e] at h
 refine ⟨rfl,fun hn=>?_,fun ad had j u hu=>?_⟩
 ·rcases Nat.eq_zero_or_pos l.length with h | h
  ·exact h
  ·have:=h4 (hne h);rw [hn] at this;cases this
 ·have hj:j<(cellsOf l).length:=(List.getElem?_eq_some_iff.1 hu).1;have e:=h4 (fun e=>by rw [e] at hj;simp [cellsOf] at hj);rw [had] at e
  cases e
  rw [Addr.add_lit];exact h5 j u hu
theorem z5D (w:World):RdR (α:=α) w (.slice none 0 0) []:=⟨none,0,0,0,rfl,Nat.le_refl _,Nat.zero_le _,fun h=>absurd rfl h,fun j u hj=>by simp [cellsOf] at hj⟩
theorem zkV (l:List α) (w:World) (t:TypeId) (cs:List Value) (hcs:cs=cellsOf l) (n:Nat) (hn:n=l.length) (h:l.length≤maxLen):RdR (w.alloc (.cells cs.toArray t)) (.slice (some ⟨w.heap.size,0,none⟩) n n) l :=
 ⟨_,l.length,w.heap.size,0,by rw [hn],Nat.le_refl _,h,fun _=>rfl,fun j u hj=>by
  rw [Nat.zero_add,World.cell?_alloc_new,hcs]
  simpa using hj⟩
end
class z35 (P:HP) {α:Type} {sz:Nat} (E:Enc α sz) (v:Value) (l:outParam (List α)) (F:outParam HP):Prop where
 eq:P=@z7 α sz E v l*F
section
variable {α:Type} {sz:Nat} [E:Enc α sz]
instance (priority:=2000) z35.here (v:Value) (l:List α) (F:HP):z35 (z7 v l*F) E v l F:=⟨rfl⟩
instance (priority:=1000) z35.right (A G F:HP) (v:Value) (l:List α) [h:z35 G E v l F]:z35 (A*G) E v l (A*F):=⟨by rw [h.eq];ac_rfl⟩
instance (priority:=900) z35.left (A G F:HP) (v:Value) (l:List α) [h:z35 A E v l F]:z35 (A*G) E v l (F*G):=⟨by rw [h.eq];ac_rfl⟩
theorem z03:z7 (α:=α) (.slice none 0 0) []=emp:=HP.same fun h=>by
 constructor
 ·intro p
  rcases p with ⟨_,_,_,e⟩ | ⟨g,off,cap,sp,e,_⟩
  ·exact e
  ·cases e
 ·intro e;exact Or.inl ⟨rfl,rfl,rfl,e⟩
theorem z7x (g o:Nat):z7 (α:=α) (.slice (some ⟨g,o,none⟩) 0 0) []=emp:=HP.same fun h=>by
 constructor
 ·intro p
  rcases p with ⟨e,_⟩ | ⟨g',off,cap,sp,e,_,_,hx,hsp,p⟩
  ·cases e
  ·simp only [Value.slice.injEq] at e;obtain ⟨_,_,rfl⟩:=e;have h1:cellsOf ([]:List α)++sp=[]:=by rw [z1e,List.nil_append];simpa using hsp
   rw [h1,z3R] at p;exact p
 ·intro e;refine Or.inr ⟨g,o,0,[],rfl,Nat.le_refl _,Nat.zero_le _,by simp [cellsOf],by simp,?_⟩;rw [z1e,List.nil_append,z3R];exact e
theorem Sat.recs_cell {w0 w:World} {F:HP} {g off n cap:Nat} {l:List α} (hs:Sat w0 w (z7 (.slice (some ⟨g,off,none⟩) n cap) l*F)) {k c:Nat} {v:Value} (hk:k<l.length) (hv:(E.enc (l.getD k E.dft))[c]?=some v) :
  w.cell? ⟨g,off+k*sz+c,none⟩=some v∧w.frozen? ⟨g,off+k*sz+c,none⟩=false:=by
 have hc:c<sz:=by rw [← E.len (l.getD k E.dft)];exact (List.getElem?_eq_some_iff.1 hv).1
 rcases hs.slice_out with ⟨e,_⟩ | ⟨g',off',cap',sp,e,_,_,hx,_,hs'⟩
 ·cases e
 ·simp only [Value.slice.injEq,Option.some.injEq,Addr.mk.injEq] at e;obtain ⟨⟨rfl,rfl,_⟩,_,_⟩:=e;have h1:(cellsOf l)[k*sz+c]?=some v:=by rw [z0Y hk hc];exact hv
  rw [Nat.add_assoc];exact z0z hs' (by rw [List.getElem?_append_left (List.getElem?_eq_some_iff.1 h1).1];exact h1)
instance (priority:=1200) zC.recs (g off n cap k c:Nat) (l:List α) (v:Value) [h:Lt k l.length] [e:z1v (l.getD k E.dft) c v]:zC (z7 (.slice (some ⟨g,off,none⟩) n cap) l) g (off+k*sz+c) v :=
 ⟨fun hs=>(hs.recs_cell h.lt e.at_).1,fun hs=>(hs.recs_cell h.lt e.at_).2⟩
instance (priority:=1210) zC.recs0 (g off n cap k:Nat) (l:List α) (v:Value) [h:Lt k l.length] [e:z1v (l.getD k E.dft) 0 v]:zC (z7 (.slice (some ⟨g,off,none⟩) n cap) l) g (off+k*sz) v :=
 ⟨fun hs=>(hs.recs_cell h.lt e.at_).1,fun hs=>(hs.recs_cell h.lt e.at_).2⟩
instance (priority:=1190) zC.recsZ (g off n cap c:Nat) (l:List α) (v:Value) [h:Lt 0 l.length] [e:z1v (l.getD 0 E.dft) c v]:zC (z7 (.slice (some ⟨g,off,none⟩) n cap) l) g (off+c) v :=
 ⟨fun hs=>by have:=(hs.recs_cell (k:=0) h.lt e.at_).1;rwa [Nat.zero_mul,Nat.add_zero] at this,fun hs=>by have:=(hs.recs_cell (k:=0) h.lt e.at_).2;rwa [Nat.zero_mul,Nat.add_zero] at this⟩
instance (priority:=1195) zC.recsZ0 (g off n cap:Nat) (l:List α) (v:Value) [h:Lt 0 l.length] [e:z1v (l.getD 0 E.dft) 0 v]:zC (z7 (.slice (some ⟨g,off,none⟩) n cap) l) g off v :=
 ⟨fun hs=>by have:=(hs.recs_cell (k:=0) h.lt e.at_).1;simpa using this,fun hs=>by have:=(hs.recs_cell (k:=0) h.lt e.at_).2;simpa using this⟩
theorem z6y {w0 w:World} {F:HP} {g off n cap:Nat} {l:List α} (hs:Sat w0 w (z7 (.slice (some ⟨g,off,none⟩) n cap) l*F)) {k c:Nat} {v:Value} {x':α} (hk:k<l.length) (hc:c<sz) (h:E.enc x'=(E.enc (l.getD k E.dft)).set c v) :
  Sat w0 (w.setCell ⟨g,off+k*sz+c,none⟩ v) (z7 (.slice (some ⟨g,off,none⟩) n cap) (l.set k x')*F):=by
 rcases hs.slice_out with ⟨e,_⟩ | ⟨g',off',cap',sp,e,h1,h2,hx,hsp,hs'⟩
 ·cases e
 ·simp only [Value.slice.injEq,Option.some.injEq,Addr.mk.injEq] at e;obtain ⟨⟨rfl,rfl,_⟩,rfl,rfl⟩:=e;have hlt:k*sz+c<(cellsOf l).length:=by
   rw [zJ]
   calc k*sz+c<k*sz+sz:=by omega
    _=(k+1)*sz:=by rw [Nat.add_mul];omega
    _≤l.length*sz:=Nat.mul_le_mul_right _ hk
  have h3:=hs'.set (j:=k*sz+c) (by rw [List.length_append];omega) v;rw [List.set_append_left _ _ hlt,z6I hk hc h,← Nat.add_assoc] at h3;have h4:=Sat.slice_in (k:=sz) (n:=l.length) h3 h1 h2 (by rw [zJ,List.length_set]) hsp;unfold z7;rw [List.length_set];exact h4
instance (priority:=1200) Upd.recs (g off n cap k c:Nat) (l:List α) (v:Value) (x':α) [h:Lt k l.length] [e:z4e (l.getD k E.dft) c v x']:Upd (z7 (.slice (some ⟨g,off,none⟩) n cap) l) g (off+k*sz+c) v (z7 (.slice (some ⟨g,off,none⟩) n cap) (l.set k x')) :=
 ⟨fun hs=>z6y hs h.lt e.lt e.set_⟩
instance (priority:=1190) Upd.recsZ (g off n cap c:Nat) (l:List α) (v:Value) (x':α) [h:Lt 0 l.length] [e:z4e (l.getD 0 E.dft) c v x']:Upd (z7 (.slice (some ⟨g,off,none⟩) n cap) l) g (off+c) v (z7 (.slice (some ⟨g,off,none⟩) n cap) (l.set 0 x')) :=
 ⟨fun {w0 w F} hs=>by have:=z6y hs h.lt e.lt e.set_;rwa [Nat.zero_mul,Nat.add_zero] at this⟩
theorem z6g {w0 w:World} {F:HP} {b o:Nat} {l:List α} (hs:Sat w0 w (zdw b o l*F)) {k c:Nat} {v:Value} (hk:k<l.length) (hv:(E.enc (l.getD k E.dft))[c]?=some v) :
  w.cell? ⟨b,o+k*sz+c,none⟩=some v∧w.frozen? ⟨b,o+k*sz+c,none⟩=false:=by
 have hc:c<sz:=by rw [← E.len (l.getD k E.dft)];exact (List.getElem?_eq_some_iff.1 hv).1
 rw [Nat.add_assoc];exact z0z hs (by rw [z0Y hk hc];exact hv)
instance (priority:=1200) zC.arr (b o k c:Nat) (l:List α) (v:Value) [h:Lt k l.length] [e:z1v (l.getD k E.dft) c v]:zC (zdw b o l) b (o+k*sz+c) v :=
 ⟨fun hs=>(z6g hs h.lt e.at_).1,fun hs=>(z6g hs h.lt e.at_).2⟩
instance (priority:=1210) zC.arr0 (b o k:Nat) (l:List α) (v:Value) [h:Lt k l.length] [e:z1v (l.getD k E.dft) 0 v]:zC (zdw b o l) b (o+k*sz) v :=
 ⟨fun hs=>(z6g hs h.lt e.at_).1,fun hs=>(z6g hs h.lt e.at_).2⟩
theorem zeD {w0 w:World} {F:HP} {b o:Nat} {l:List α} (hs:Sat w0 w (zdw b o l*F)) {k c:Nat} {v:Value} {x':α} (hk:k<l.length) (hc:c<sz) (h:E.enc x'=(E.enc (l.getD k E.dft)).set c v) :
  Sat w0 (w.setCell ⟨b,o+k*sz+c,none⟩ v) (zdw b o (l.set k x')*F):=by
 have hlt:k*sz+c<(cellsOf l).length:=by
  rw [zJ]
  calc k*sz+c<k*sz+sz:=by omega
   _=(k+1)*sz:=by rw [Nat.add_mul];omega
   _≤l.length*sz:=Nat.mul_le_mul_right _ hk
 have h3:=Sat.set (hs:Sat w0 w (pts b o (cellsOf l)*F)) (j:=k*sz+c) hlt v;rw [z6I hk hc h,← Nat.add_assoc] at h3;exact h3
end
class RdC (w:World) {α:Type} {sz:Nat} (E:Enc α sz) (v:Value) (l:outParam (List α)):Prop where
 rd:@RdR α sz E w v l
section
variable {α:Type} {sz:Nat} [E:Enc α sz]
instance (priority:=1000) RdC.own (w0 w:World) (P:HP) (v:Value) (l:List α) (F:HP) [h:Sat w0 w P] [p:z35 P E v l F]:RdC w E v l:=⟨(h.perm p.eq).rdR⟩
end
class zgX {α:Type} {sz:Nat} (E:Enc α sz) (xs:List Value) (l:outParam (List α)):Prop where
 eq:xs=@cellsOf α sz E l
instance (priority:=1100) RdC.lit {α:Type} {sz:Nat} [E:Enc α sz] (w:World) (xs:List Value) (x:α) (t:TypeId) (n:Nat) [h:zgX E xs [x]] [s:z89 w n]:RdC (w.alloc (.cells xs.toArray t)) E (.slice (some ⟨n,0,none⟩) 1 1) [x] :=
 ⟨s.eq ▸ zkV [x] w t xs h.eq 1 rfl (by simp [maxLen])⟩
class z63 (P:Program) (t:TypeId) (α:outParam Type) (sz:outParam Nat) (E:outParam (Enc α sz)) (e bytes:outParam Nat) (z:outParam Value):Prop where
 el:z1m P t e sz bytes z
 le:bytes≤100
section
variable {P:Program} {w0 w:World} {P0 F:HP} {α:Type} {sz:Nat} {E:Enc α sz} {t e bytes:Nat} {z:Value} {l l2:List α} {o:Oper} {a:Act} {Q:Exit→Act→World→Prop} {s x:Operand} {ad sa:Option Addr} {m c sn sc:Nat}
theorem z2J {K:Act→World→Prop}
  (ho:o.op=.call { callee:=.builtin .append,args:=#[s,x],argTypes:=#[t,t] }) [ET:z63 P t α sz E e bytes z]
  (hv:a.eval s=.slice sa sn sc) (hx:a.eval x=.slice ad m c) [hs:Sat w0 w P0] [hp:z35 P0 E (.slice sa sn sc) l F] [hr:RdC w E (.slice ad m c) l2]
  (h63:sn+m≤1000000000)
  (h:∀ a' cap' L w',Hid (L=l++l2)→L.length≤sn+m→sn+m≤L.length→Sat w0 w' (z7 (.slice a' L.length cap') L*F)→w.heap.size≤w'.heap.size→K (a.put o.dst (.slice a' L.length cap')) w'):o.wp P a w K Q:=by
 have hn:=hr.rd.news;have hml:m=l2.length:=hn.1;have hsl:sn=l.length:=(hs.perm hp.eq).rdR.caps.1;have hs1:Sat w0 w (z7 (.slice sa sn sc) l*F):=hs.perm hp.eq;have hbb:(l.length+m)*bytes≤140737488355328:=Nat.le_trans (Nat.mul_le_mul (show l.length+m≤1000000000 by omega) ET.le) (by decide);refine z0E s x ho ET.el hv hs1 ad m c (cellsOf l2) hx (by rw [zJ,hml]) hn.2.1 hn.2.2 (z1f l2) (by unfold maxLen;omega) hbb ?_;intro v' w' hs' hz;have hs2:Sat w0 w' (z7 v' (l++l2)*F):=by
  unfold z7;rw [List.length_append,z0g,← hml];exact hs'
 obtain ⟨a',cap',rfl⟩:=hs2.slice_form;exact h a' cap' _ w' rfl (by simp;omega) (by simp;omega) hs2 hz
theorem zA {ops:Array Oper} {rest:List Oper} (hgd:o.guard=none)
  (ho:o.op=.call { callee:=.builtin .append,args:=#[s,x],argTypes:=#[t,t] }) [ET:z63 P t α sz E e bytes z]
  (hv:a.eval s=.slice sa sn sc) (hx:a.eval x=.slice ad m c) [hs:Sat w0 w P0] [hp:z35 P0 E (.slice sa sn sc) l F] [hr:RdC w E (.slice ad m c) l2]
  (h63:sn+m≤1000000000)
  (h:∀ a' cap' L w',Hid (L=l++l2)→L.length≤sn+m→sn+m≤L.length→Sat w0 w' (z7 (.slice a' L.length cap') L*F)→w.heap.size≤w'.heap.size→wpList P ops Q rest (a.put o.dst (.slice a' L.length cap')) w'):wpList P ops Q (o::rest) a w :=
 wpList_plain hgd fun _ hK=>z2J ho hv hx h63 fun a' cap' L w' h1 h2 h3 h4 h5=>hK _ _ (h a' cap' L w' h1 h2 h3 h4 h5)
end
section
variable {α:Type} {sz:Nat} [E:Enc α sz]
end
section
variable {P:Program} {w:World} {α:Type} {sz:Nat} {E:Enc α sz} {t e bytes:Nat} {z:Value} {l:List α} {ops:Array Oper} {rest:List Oper} {o:Oper} {a:Act} {Q:Exit→Act→World→Prop} {s lo hi:Operand} {sa:Option Addr} {sn sc:Nat} {i j:Int}
end
section
variable {α:Type} {sz:Nat} [E:Enc α sz]
theorem Sat.someR {w0 w:World} {P F:HP} {l:List α} (hs:Sat w0 w P) (a:Option Addr) (n c:Nat) [p:z35 P E (.slice a n c) l F] (h:0<l.length):∃ g off,a=some ⟨g,off,none⟩:=by
 rcases (hs.perm p.eq:Sat w0 w (z7 (.slice a n c) l*F)).slice_out with ⟨_,h0,_⟩ | ⟨g,off,cap,sp,e,_⟩
 ·omega
 ·simp only [Value.slice.injEq] at e;exact ⟨g,off,e.1⟩
theorem Sat.recs_tail {w0 w:World} {F:HP} {g off n c:Nat} {x:α} {l:List α} (hs:Sat w0 w (z7 (.slice (some ⟨g,off,none⟩) n c) (x::l)*F)) :
  Sat w0 w (z7 (.slice (some ⟨g,off+sz,none⟩) l.length (c-1)) l*F):=by
 rcases hs.slice_out with ⟨e,_⟩ | ⟨g',off',cap,sp,e,h1,h2,hx,hsp,hs'⟩
 ·cases e
 ·simp only [Value.slice.injEq,Option.some.injEq,Addr.mk.injEq] at e;obtain ⟨⟨rfl,rfl,_⟩,rfl,rfl⟩:=e;simp only [List.length_cons] at h1 hsp;rw [zy,List.append_assoc,zd,E.len] at hs';have h3:=(hs'.perm (by ac_rfl:_=pts g off (E.enc x)*(pts g (off+sz) (cellsOf l++sp)*F))).drop;exact Sat.slice_in (k:=sz) h3 (by omega) (by omega) (zJ l) (by rw [hsp];congr 1;omega)
end
theorem z9E {w:World} {b o:Nat} {v:Value} (h:w.cell? ⟨b,o,none⟩=some v):∃ t k,w.shape? b=some (t,k)∧k≠0:=by
 unfold World.cell? at h;unfold World.shape?
 split at h
 ·rename_i c e f he
  simp only at he;rw [he];simp only [Option.isSome_none,Bool.false_eq_true,if_false] at h;refine ⟨e,c.size,rfl,fun h0=>?_⟩;have:=(Array.getElem?_eq_some_iff.1 h).1;omega
 ·cases h
def z8K (w:World) (b n:Nat):Prop:=∃ t,w.shape? b=some (t,n)∧w.frozen? ⟨b,n,none⟩=false
theorem zcw (w:World) (l:List Value) (t:TypeId):z8K (w.alloc (.cells l.toArray t)) w.heap.size l.length :=
 ⟨t,by
  have e:(w.alloc (.cells l.toArray t)).heap[w.heap.size]?=some (.cells l.toArray t):=by
   show (w.heap.push _)[w.heap.size]?=_;exact Array.getElem?_push_size
  unfold World.shape?;rw [e];simp,World.frozen?_alloc_new w _ t _⟩
theorem zdt {w:World} {l:List Value} {t:TypeId} {n:Nat} [s:z89 w n]:z8K (w.alloc (.cells l.toArray t)) n l.length:=s.eq ▸ zcw w l t
theorem z8K.lt {w:World} {b n o:Nat} {v:Value} (h:z8K w b n) (hc:w.cell? ⟨b,o,none⟩=some v):o<n:=by
 obtain ⟨t,h1,_⟩:=h;unfold World.cell? at hc;unfold World.shape? at h1
 split at hc
 ·rename_i c e f he
  simp only at he;rw [he] at h1;simp only [Option.some.injEq,Prod.mk.injEq] at h1;simp only [Option.isSome_none,Bool.false_eq_true,if_false] at hc;have:=(Array.getElem?_eq_some_iff.1 hc).1;omega
 ·cases hc
theorem z8K.drew {w:World} {b n:Nat} (h:z8K w b n):z8K w.drew b n:=h
theorem z6c {P:Program} (w:World) (dT sT ty elem:TypeId) (sz:Nat) (b o dLen dCap:Nat) (a:Addr) (sLen sCap:Nat) (cs:List Value)
  (hu : P.underlying dT = some (.slice elem)) (hs : (P.info? elem).map (·.size) = some sz) (hn : cs.length = Nat.min sLen dLen * sz)
  (hsrc:∀ j v,cs[j]?=some v→w.cell? (a.add j)=some v) (hc:∀ j,j<cs.length→(w.cell? ⟨b,o+j,none⟩).isSome=true) (hf:∀ j,j<cs.length→w.frozen? ⟨b,o+j,none⟩=false) (h1:∀ v∈cs,v.oneCell'=true) :
  (Builtin.copy_ #[dT,sT] ty #[.slice (some ⟨b,o,none⟩) dLen dCap,.slice (some a) sLen sCap]).run P w=.ok (goInt (Nat.min sLen dLen)) (w.setCells b o cs):=by
 have hl:=run_loadCells_list (P:=P) w a cs hsrc;have hst:=run_storeCells_cells (P:=P) b o cs 0 w (by simpa using hc) (by simpa using hf) h1
 cases hq:P.info? elem with
 | none=>simp [hq] at hs
 | some i =>
  have hi:i.size=sz:=by simpa [hq] using hs
  simp [Builtin.copy_,run_underlying hu,Builtin.lenOf,Builtin.firstCells,sizeOf,typeInfo,hq,hi,← hn,hl,hst]
section
variable {P:Program} {w0 w:World} {F:HP} {t e sz bytes:Nat} {z:Value} {o:Oper} {a:Act} {Q:Exit→Act→World→Prop} {d s:Operand} {b off dl dc sl sc o0:Nat} {sa:Addr} {cs xs ys:List Value}
theorem z9M {K:Act→World→Prop} (ho:o.op=.call { callee:=.builtin .copy,args:=#[d,s],argTypes:=#[t,t] }) (E:z1m P t e sz bytes z)
  (hd:a.eval d=.slice (some ⟨b,off,none⟩) dl dc) (hx:a.eval s=.slice (some sa) sl sc) (hn:cs.length=Nat.min sl dl*sz) (hsrc:∀ j v,cs[j]?=some v→w.cell? (sa.add j)=some v) (h1:∀ v∈cs,v.oneCell'=true)
  (hs:Sat w0 w (pts b o0 (xs++ys)*F)) (ho0:off=o0+xs.length) (hl:cs.length≤ys.length)
  (h:∀ w',Sat w0 w' (pts b o0 (xs++cs++ys.drop cs.length)*F)→w'.heap.size=w.heap.size→K (a.put o.dst (goInt (Nat.min sl dl))) w'):o.wp P a w K Q:=by
 subst ho0;obtain ⟨inf,hi,h2,h3,h4⟩:=info_parts E.hi;have hr:=z6c (P:=P) w t t o.type e sz b (o0+xs.length) dl dc sa sl sc cs E.ht (by rw [hi];simp [h3]) hn hsrc
  (fun j hj=>by
   have:=hs.cell (j:=xs.length+j) (v:=(xs++ys)[xs.length+j]'(by simp;omega)) (List.getElem?_eq_getElem _);rw [← Nat.add_assoc] at this;rw [this];rfl)
  (fun j hj=>by
   have:=hs.frz (j:=xs.length+j) (by simp;omega)
   rwa [← Nat.add_assoc] at this) h1
 unfold Oper.wp execOp;simp only [ho,resolve,invoke,builtin,Sem.run_bind,Sem.run_pure,Result.andThen_ok,List.map_toArray,List.map_cons,List.map_nil,hd,hx,hr];exact h _ (Sat.setCells cs w xs ys hs hl) (z3g _ _ _ _)
theorem z0A {ops:Array Oper} {rest:List Oper} (hgd:o.guard=none) (ho:o.op=.call { callee:=.builtin .copy,args:=#[d,s],argTypes:=#[t,t] }) (E:z1m P t e sz bytes z)
  (hd:a.eval d=.slice (some ⟨b,off,none⟩) dl dc) (hx:a.eval s=.slice (some sa) sl sc) (hn:cs.length=Nat.min sl dl*sz) (hsrc:∀ j v,cs[j]?=some v→w.cell? (sa.add j)=some v) (h1:∀ v∈cs,v.oneCell'=true)
  (hs:Sat w0 w (pts b o0 (xs++ys)*F)) (ho0:off=o0+xs.length) (hl:cs.length≤ys.length)
  (h:∀ w',Sat w0 w' (pts b o0 (xs++cs++ys.drop cs.length)*F)→w'.heap.size=w.heap.size→wpList P ops Q rest (a.put o.dst (goInt (Nat.min sl dl))) w'):wpList P ops Q (o::rest) a w :=
 wpList_plain hgd fun _ hK=>z9M ho E hd hx hn hsrc h1 hs ho0 hl fun w' h2 h3=>hK _ _ (h w' h2 h3)
end
theorem z4w {P:Program} {w0 w:World} {F:HP} {t tn e sz bytes:Nat} {z:Value} {o:Oper} {a:Act} {Q:Exit→Act→World→Prop} {s x:Operand} {ops:Array Oper} {rest:List Oper} {sa:Addr} {n c k m:Nat} {i:Int} {kn kq:IntKind} {olds:List Value}
  (hgd:o.guard=none) (ho:o.op=.call { callee:=.builtin .append,args:=#[s,x],argTypes:=#[t,tn] }) (E:z1m P t e sz bytes z) (htn:P.underlying tn=some (.int kn))
  (hv:a.eval s=.slice (some sa) n c) (hx:a.eval x=.int kq i) (hi:i=(k:Int)) (hm:n+k=m) (hs:Sat w0 w F) (hl:olds.length=n*sz) (ho2:∀ j v,olds[j]?=some v→w.cell? (sa.add j)=some v)
  (h0:0<k) (hsz:0<sz) (hg:c<n+k) (h63:n+k≤1000000) (hb:bytes≤100)
  (h:∀ w' gc sp,m≤gc→gc≤maxLen→sp.length=(gc-m)*sz→Sat w0 w' (pts w.heap.size 0 (olds++(Builtin.zeroCells z.cells k).toList++sp)*F)→w'.heap.size=w.heap.size+1 →
   wpList P ops Q rest (a.put o.dst (.slice (some ⟨w.heap.size,0,none⟩) m gc)) w'):wpList P ops Q (o::rest) a w:=by
 subst hm;subst hi;refine wpList_plain hgd fun K hK=>?_;obtain ⟨inf,hi,h2,h3,h4⟩:=info_parts E.hi;have hold:(Builtin.firstCells inf.size n (.slice (some sa) n c)).run P w.drew=.ok olds.toArray w.drew:=by
  rw [h3];exact run_firstCells_some w.drew sz n sa n c olds hl ho2
 have hbb:(n+k)*inf.bytes≤140737488355328:=Nat.le_trans (Nat.mul_le_mul h63 (by rw [h4];exact hb)) (by decide);have hr:=Lib.run_append_grow_zeros (P:=P) w t tn o.type e inf z kq kn E.ht htn hi h2 (some sa) n c olds hold k h0 (by rw [h3];exact hsz) hg (by omega) (Nat.le_trans (Nat.mul_le_mul_right _ (show k≤n+k by omega)) (by omega)) (growslice_fits (by omega) hbb);unfold Oper.wp execOp;simp only [ho,resolve,invoke,builtin,Sem.run_bind,Sem.run_pure,Result.andThen_ok,List.map_toArray,List.map_cons,List.map_nil,hv,hx,hr];have hge:=grownCap_ge w (n+k) c e;have hcm:grownCap w (n+k) c e≤maxLen:=grownCap_le_maxLen w (n+k) c e (by unfold maxLen;omega);refine hK _ _ (h _ (grownCap w (n+k) c e) (Builtin.zeroCells z.cells (grownCap w (n+k) c e-(n+k))).toList hge hcm (by simp [size_zeroCells,E.hz]) ?_ (by simp));have h5:=hs.drew.alloc (olds.toArray++Builtin.zeroCells z.cells k++Builtin.zeroCells z.cells (grownCap w (n+k) c e-(n+k))) e;exact h5.perm (by simp)
def z3l (P:Program) (ops:Array Oper) (Q:Exit→Act→World→Prop) (S:World→Prop):List (Nat×Bool)→Act→World→Prop
 | [],a,w=>Q .normal a w
 | (i,true)::rest,a,w=>∃ o v,ops[i]?=some o∧YieldsIf P ops S o v a∧z3l P ops Q S rest (a.put o.dst v) w
 | (i,false)::rest,a,w=>wpOp P ops Q i (fun a' w'=>S w'∧z3l P ops Q S rest a' w') a w
def z3y (md:Region.Mode) (ops:Array Oper):List (Nat×Bool)→Array Bool→Bool
 | [],listed=>(Region.ready md ops listed).isEmpty
 | (i,true)::rest,listed=>(Region.ready md ops listed).contains i && Region.free md ops listed i && z3y md ops rest (listed.setIfInBounds i true)
 | (i,false)::rest,listed=>(Region.ready md ops listed==[i]) && z3y md ops rest (listed.setIfInBounds i true)
def zic (ops:Array Oper) (plan:List (Nat×Bool)):Bool :=
 Region.noSelect ops && (plan.length==ops.size) && z3y .any ops plan (Array.replicate ops.size false)
section
variable {P:Program} {ops:Array Oper} {Q:Exit→Act→World→Prop} {md:Region.Mode} {S:World→Prop}
theorem z2r (hs:Region.noSelect ops=true) (hQ:∀ (t:Array Value) c (a:Act) w,Q (.panic c) { a with tmps:=t } w→Q (.panic c) a w) :
  ∀ (plan:List (Nat×Bool)) (listed:Array Bool) (a:Act) (w:World),z3y md ops plan listed=true→S w→z3l P ops Q S plan a w→wpAnyH P md ops Q S plan.length listed a w
 | [],_,_,_,hB,_,h=>wpAnyH_done (by simpa [z3y] using hB) h _
 | (i,true)::rest,listed,a,w,hB,hS,h=>by
  simp only [z3y,Bool.and_eq_true] at hB;obtain ⟨⟨hr,hf⟩,hB'⟩:=hB;obtain ⟨o,v,ho,hy,h'⟩:=h;exact wpAnyH_take ho hs hf hr (fun c a w hq=>by
   cases hd:o.dst with
   | none=>rw [hd] at hq;exact hq
   | some d=>rw [hd] at hq;exact hQ _ c a w hq) hy hS (z2r hs hQ rest _ _ _ hB' hS h')
 | (i,false)::rest,listed,a,w,hB,hS,h=>by
  simp only [z3y,Bool.and_eq_true,beq_iff_eq] at hB;obtain ⟨hr,hB'⟩:=hB;refine wpAnyH_all hr (by simp) fun j hj=>?_;have:j=i:=by simpa using hj
  subst this;exact wpOp_mono (fun a' w' h'=>⟨h'.1,z2r hs hQ rest _ _ _ hB' h'.1 h'.2⟩) h
theorem zj {id:Nat} {a:Act} {w:World} (S:World→Prop) (plan:List (Nat×Bool)) (hm:P.follows .mixedOrders=true) (hB:zic ops plan=true)
  (hQ:∀ (t:Array Value) c (a:Act) w,Q (.panic c) { a with tmps:=t } w→Q (.panic c) a w) (hS:S w.drew) (h:z3l P ops Q S plan a w.drew):(Code.region id ops true).wp P Q a w:=by
 simp only [zic,Bool.and_eq_true,beq_iff_eq] at hB;obtain ⟨⟨h1,h2⟩,h3⟩:=hB;refine wp_region_held (S:=S) hm ?_;rw [← h2];rw [← h2] at h3;exact z2r h1 hQ plan _ a w.drew h3 hS h
theorem zB {a:Act} {w:World} (h:Q .normal a w):z3l P ops Q S [] a w:=h
section
variable {l:List Oper} {i:Nat} {rest:List (Nat×Bool)} {a:Act} {w:World}
theorem zf (h:∀ K:Act→Prop,(∀ a,z3l P l.toArray Q S rest a w→K a)→match l[i]? with
  | none=>False
  | some o=>if Region.wanted o (yielded l.toArray a.tmps)=true then ∃ v,(∀ w,S w→(execOp a.eval o).run P w=.ok (.value v) w)∧K (a.put o.dst v) else K (a.put o.dst undef)) :
  z3l P l.toArray Q S ((i,true)::rest) a w:=by
 have h:=h _ fun _ h=>h
 cases ho:l[i]? with
 | none=>rw [ho] at h;exact h.elim
 | some o =>
  rw [ho] at h;have h:if Region.wanted o (yielded l.toArray a.tmps)=true then _ else _:=h
  by_cases hw:Region.wanted o (yielded l.toArray a.tmps)=true
  ·rw [if_pos hw] at h;obtain ⟨v,h1,h2⟩:=h;exact ⟨o,v,by simpa using ho,.inl ⟨hw,h1⟩,h2⟩
  ·rw [if_neg hw] at h;exact ⟨o,undef,by simpa using ho,.inr ⟨by simpa using hw,rfl⟩,h⟩
theorem ze (h:∀ K:Act→World→Prop,(∀ a w,S w∧z3l P l.toArray Q S rest a w→K a w)→match l[i]? with
  | none=>False
  | some o=>if Region.wanted o (yielded l.toArray a.tmps)=true then o.wp P a w K Q else K (a.put o.dst undef) w) :
  z3l P l.toArray Q S ((i,false)::rest) a w:=by
 have h:=h _ fun _ _ h=>h;show wpOp P l.toArray Q i _ a w;unfold wpOp;have e:l.toArray[i]?=l[i]?:=by simp
 rw [e]
 cases ho:l[i]? with
 | none=>rw [ho] at h;exact h.elim
 | some o =>
  rw [ho] at h;have h:if Region.wanted o (yielded l.toArray a.tmps)=true then _ else _:=h;show if Region.wanted o (yielded l.toArray a.tmps)=true then _ else _
  by_cases hw:Region.wanted o (yielded l.toArray a.tmps)=true
  ·rw [if_pos hw] at h ⊢;exact .inl h
  ·rw [if_neg hw] at h ⊢;exact h
theorem zpI {o:Oper} (ho:l[i]?=some o) (hw:Region.wanted o (yielded l.toArray a.tmps)=true) (h:∃ v,(∀ w,S w→(execOp a.eval o).run P w=.ok (.value v) w)∧z3l P l.toArray Q S rest (a.put o.dst v) w):z3l P l.toArray Q S ((i,true)::rest) a w :=
 zf fun K hK=>by rw [ho];dsimp only;rw [if_pos hw];obtain ⟨v,hv,hk⟩:=h;exact ⟨v,hv,hK _ hk⟩
theorem zpH {o:Oper} (ho:l[i]?=some o) (hw:Region.wanted o (yielded l.toArray a.tmps)=false) (hk:z3l P l.toArray Q S rest (a.put o.dst undef) w):z3l P l.toArray Q S ((i,true)::rest) a w :=
 zf fun K hK=>by rw [ho];dsimp only;rw [if_neg (ne_true_of_eq_false hw)];exact hK _ hk
theorem zsR {o:Oper} {v:Value} {a':Act} (h:z3l P l.toArray Q S rest a' w) (ho:l[i]?=some o:=by rfl) (hw:Region.wanted o (yielded l.toArray a.tmps)=true:=by rfl)
  (hx:∀ w,S w→(execOp a.eval o).run P w=.ok (.value v) w:=by intro w hSw; (try dsimp only at hSw);go_simp;try with_reducible rfl) (ha:a.put o.dst v=a':=by simp only [Act.put,zqA,zqP,zqQ];rfl):z3l P l.toArray Q S ((i,true)::rest) a w :=
 zpI ho hw ⟨v,hx,by rw [ha];exact h⟩
theorem zsQ {o:Oper} {a':Act} (h:z3l P l.toArray Q S rest a' w) (ho:l[i]?=some o:=by rfl) (hw:Region.wanted o (yielded l.toArray a.tmps)=false:=by rfl) (ha:a.put o.dst undef=a':=by simp only [Act.put,zqA,zqP,zqQ];rfl):z3l P l.toArray Q S ((i,true)::rest) a w :=
 zpH ho hw (by rw [ha];exact h)
theorem z29 {o:Oper} (ho:l[i]?=some o) (hw:Region.wanted o (yielded l.toArray a.tmps)=true) (h:∀ K:Act→World→Prop,(∀ a w,S w∧z3l P l.toArray Q S rest a w→K a w)→o.wp P a w K Q):z3l P l.toArray Q S ((i,false)::rest) a w :=
 ze fun K hK=>by rw [ho];dsimp only;rw [if_pos hw];exact h K hK
end
end
def z8G (P:Program) (md:Region.Mode) (ops:Array Oper) (Q:Exit→Act→World→Prop) (S:World→Prop) (j0:Nat):Nat→Array Bool→Act→World→Prop
 | 0,listed,a,w=>Region.ready md ops listed=[]∧Q .normal a w
 | fuel+1,listed,a,w =>
  (Region.ready md ops listed=[]→Q .normal a w) ∧
  ∀ i∈Region.ready md ops listed,wpOp P ops Q i (fun a' w'=>(i≠j0→listed.getD j0 true=false→S w')∧z8G P md ops Q S j0 fuel (listed.setIfInBounds i true) a' w') a w
section
variable {P:Program} {ops:Array Oper} {Q:Exit→Act→World→Prop} {md:Region.Mode} {S:World→Prop} {j0:Nat}
theorem z3k:∀ (fuel:Nat) (listed:Array Bool) (a:Act) (w:World),z8G P md ops Q S j0 fuel listed a w→wpAny P md ops Q fuel listed a w
 | 0,_,_,_,h=>h
 | fuel+1,_,_,_,h=>⟨h.1,fun i hi=>wpOp_mono (fun a' w' h'=>z3k fuel _ a' w' h'.2) (h.2 i hi)⟩
def z56 (md:Region.Mode) (ops:Array Oper) (j0 i:Nat):Bool:=match ops[j0]? with
 | none=>false
 | some o=>o.after.any fun e=>Region.binds md e && e.on==i
theorem z88 {i:Nat} {listed:Array Bool} (h:z56 md ops j0 i=true) (hr:j0∈Region.ready md ops listed):listed.getD i false=true:=by
 unfold z56 at h;obtain ⟨_,o,ho,hall⟩:=mem_ready.1 hr;rw [ho] at h;obtain ⟨e,he,hb⟩:=Array.any_eq_true'.1 h;simp only [Bool.and_eq_true,beq_iff_eq] at hb;rw [← hb.2];exact hall e he hb.1
theorem zds {i:Nat} {listed:Array Bool} (h:listed.getD i true=false):¬ listed.getD i false=true:=by
 rcases Nat.lt_or_ge i listed.size with h' | h'
 ·simp [h'] at h ⊢;exact h
 ·simp [Array.getElem?_eq_none h'] at h
theorem z44 {i:Nat} {listed:Array Bool} (h:listed.getD i true=false):(listed.setIfInBounds i true).getD i true=true:=by
 rcases Nat.lt_or_ge i listed.size with h' | h'
 ·simp [h']
 ·simp [Array.getElem?_eq_none h'] at h
theorem z2E {i:Nat} {oi:Oper} {v:Value} {Si:World→Prop} (hi:ops[i]?=some oi) (hsel:∀ (j:Nat) (o:Oper) cs b,ops[j]?=some o→o.op≠.select cs b)
  (hQ:∀ c a w,Q (.panic c) (a.put oi.dst v) w→Q (.panic c) a w) (hij:i≠j0) (hneed:(∀ w,Si w)∨((∀ w,S w→Si w)∧z56 md ops j0 i=true)) :
  ∀ (fuel:Nat) (listed:Array Bool) (a:Act) (w:World),
   (∀ j oj,ops[j]?=some oj→j≠i→listed.getD j true=false→(∀ e∈oj.after,Region.binds md e=true→e.on≠i)→oi.apart ops oj=true) →
   i∈Region.ready md ops listed→((∀ w,Si w)∨listed.getD j0 true=false)→YieldsIf P ops Si oi v a→(listed.getD j0 true=false→S w) →
   z8G P md ops Q S j0 fuel (listed.setIfInBounds i true) (a.put oi.dst v) w→z8G P md ops Q S j0 (fuel+1) listed a w:=by
 have hSi:∀ (listed:Array Bool) (w:World),((∀ w,Si w)∨listed.getD j0 true=false)→(listed.getD j0 true=false→S w)→Si w:=fun listed w h1 h2=>by
  rcases h1 with h | h
  ·exact h w
  ·rcases hneed with h3 | ⟨h3,_⟩
   ·exact h3 w
   ·exact h3 w (h2 h)
 intro fuel
 induction fuel with
 | zero =>
  intro listed a w _ hr hst hy hS H;refine ⟨fun h=>(by rw [h] at hr;cases hr),fun j hj=>?_⟩
  by_cases hji:j=i
  ·subst hji;exact hy.wpOp hi (hSi listed w hst hS) ⟨fun _ h=>hS h,H⟩
  ·have:=ready_mono hj hji;rw [H.1] at this
   cases this
 | succ fuel ih =>
  intro listed a w hfree hr hst hy hS H;refine ⟨fun h=>(by rw [h] at hr;cases hr),fun j hj=>?_⟩
  by_cases hji:j=i
  ·subst hji;exact hy.wpOp hi (hSi listed w hst hS) ⟨fun _ h=>hS h,H⟩
  ·have h1:=H.2 j (ready_mono hj hji);obtain ⟨hjun,oj,hoj,hall⟩:=mem_ready.1 hj;have hiun:=(mem_ready.1 hr).1;have hnot:∀ e∈oj.after,Region.binds md e=true→e.on≠i:=fun e he hb heq=>by
    have h1:=hall e he hb;rw [heq] at h1;exact zds hiun h1
   have h2:=wpOp_putIf hoj (hfree j oj hoj hji hjun hnot) (fun cs b=>hsel i oi cs b hi) (fun cs b=>hsel j oj cs b hoj) hQ hy h1;have hfree':∀ k ok,ops[k]?=some ok→k≠i→(listed.setIfInBounds j true).getD k true=false →
     (∀ e∈ok.after,Region.binds md e=true→e.on≠i)→oi.apart ops ok=true:=fun k ok hk hki hun hno=>by
    refine hfree k ok hk hki ?_ hno
    by_cases hjk:j=k
    ·subst hjk;exact hjun
    ·rw [getD_set_ne true hjk] at hun;exact hun
   have hst':(∀ w,Si w)∨(listed.setIfInBounds j true).getD j0 true=false:=by
    rcases hst with h | h
    ·exact .inl h
    ·rcases hneed with h3 | ⟨_,h3⟩
     ·exact .inl h3
     ·by_cases hj0:j=j0
      ·subst hj0;exact absurd (z88 h3 hj) (zds hiun)
      ·exact .inr (by rw [getD_set_ne true hj0];exact h)
   refine wpOp_mono (fun a' w' h3=>⟨fun hn hl=>h3.2.1 hn (by rw [getD_set_ne true hij];exact hl),ih (listed.setIfInBounds j true) a' w' hfree' (ready_mono hr (Ne.symm hji)) hst' h3.1 ?_ ?_⟩) h2
   ·intro hl
    by_cases hj0:j=j0
    ·subst hj0;rw [z44 hjun] at hl
     cases hl
    ·rw [getD_set_ne true hj0] at hl;exact h3.2.1 hj0 (by rw [getD_set_ne true hij];exact hl)
   ·rw [Array.setIfInBounds_comm _ _ hji];exact h3.2.2
def z3q (P:Program) (ops:Array Oper) (Q:Exit→Act→World→Prop) (S:World→Prop) (j0:Nat):List (Nat×Nat)→Act→World→Prop
 | [],a,w=>Q .normal a w
 | (i,0)::rest,a,w=>∃ o v,ops[i]?=some o∧YieldsIf P ops (fun _=>True) o v a∧z3q P ops Q S j0 rest (a.put o.dst v) w
 | (i,1)::rest,a,w=>∃ o v,ops[i]?=some o∧YieldsIf P ops S o v a∧z3q P ops Q S j0 rest (a.put o.dst v) w
 | (i,_+2)::rest,a,w=>wpOp P ops Q i (fun a' w'=>(i≠j0→S w')∧z3q P ops Q S j0 rest a' w') a w
def z9K (md:Region.Mode) (ops:Array Oper) (j0:Nat):List (Nat×Nat)→Array Bool→Bool
 | [],listed=>(Region.ready md ops listed).isEmpty
 | (i,0)::rest,listed=>(i != j0) && (Region.ready md ops listed).contains i && Region.free md ops listed i && z9K md ops j0 rest (listed.setIfInBounds i true)
 | (i,1)::rest,listed=>(i != j0) && z56 md ops j0 i && !listed.getD j0 true && (Region.ready md ops listed).contains i && Region.free md ops listed i && z9K md ops j0 rest (listed.setIfInBounds i true)
 | (i,_+2)::rest,listed=>(Region.ready md ops listed==[i]) && z9K md ops j0 rest (listed.setIfInBounds i true)
def zaP (ops:Array Oper) (j0:Nat) (plan:List (Nat×Nat)):Bool :=
 Region.noSelect ops && (plan.length==ops.size) && z9K .any ops j0 plan (Array.replicate ops.size false)
theorem z1K (hs:Region.noSelect ops=true) (hQ:∀ (t:Array Value) c (a:Act) w,Q (.panic c) { a with tmps:=t } w→Q (.panic c) a w) :
  ∀ (plan:List (Nat×Nat)) (listed:Array Bool) (a:Act) (w:World),z9K md ops j0 plan listed=true→(listed.getD j0 true=false→S w)→z3q P ops Q S j0 plan a w→z8G P md ops Q S j0 plan.length listed a w
 | [],_,_,_,hB,_,h=>⟨by simpa [z9K] using hB,h⟩
 | (i,0)::rest,listed,a,w,hB,hS,h=>by
  simp only [z9K,Bool.and_eq_true,bne_iff_ne] at hB;obtain ⟨⟨⟨h0,hr⟩,hf⟩,hB'⟩:=hB;obtain ⟨o,v,ho,hy,h'⟩:=h;refine z2E ho (Region.noSelect_spec hs) (fun c a w hq=>by
   cases hd:o.dst with
   | none=>rw [hd] at hq;exact hq
   | some d=>rw [hd] at hq;exact hQ _ c a w hq) h0 (.inl fun _=>trivial) _ _ _ _ (Region.free_spec ho hf) (by simpa using hr) (.inl fun _=>trivial) hy hS
   (z1K hs hQ rest _ _ _ hB' (fun hl=>hS (by rw [getD_set_ne true h0] at hl;exact hl)) h')
 | (i,1)::rest,listed,a,w,hB,hS,h=>by
  simp only [z9K,Bool.and_eq_true,bne_iff_ne,Bool.not_eq_true'] at hB;obtain ⟨⟨⟨⟨⟨h0,hw⟩,hl⟩,hr⟩,hf⟩,hB'⟩:=hB;obtain ⟨o,v,ho,hy,h'⟩:=h;refine z2E ho (Region.noSelect_spec hs) (fun c a w hq=>by
   cases hd:o.dst with
   | none=>rw [hd] at hq;exact hq
   | some d=>rw [hd] at hq;exact hQ _ c a w hq) h0 (.inr ⟨fun _ h=>h,hw⟩) _ _ _ _ (Region.free_spec ho hf) (by simpa using hr) (.inr hl) hy hS
   (z1K hs hQ rest _ _ _ hB' (fun hl=>hS (by rw [getD_set_ne true h0] at hl;exact hl)) h')
 | (i,n+2)::rest,listed,a,w,hB,hS,h=>by
  simp only [z9K,Bool.and_eq_true,beq_iff_eq] at hB;obtain ⟨hr,hB'⟩:=hB;refine ⟨fun h0=>(by rw [hr] at h0;cases h0),fun j hj=>?_⟩;rw [hr] at hj;have:j=i:=by simpa using hj
  subst this;have hjr:j∈Region.ready md ops listed:=by rw [hr];simp
  refine wpOp_mono (fun a' w' h'=>⟨fun hn _=>h'.1 hn,z1K hs hQ rest _ _ _ hB' (fun hl=>?_) h'.2⟩) h
  by_cases hj0:j=j0
  ·subst hj0;rw [z44 (mem_ready.1 hjr).1] at hl
   cases hl
  ·exact h'.1 hj0
theorem zw {id:Nat} {a:Act} {w:World} (S:World→Prop) (j0:Nat) (plan:List (Nat×Nat)) (hm:P.follows .mixedOrders=true) (hB:zaP ops j0 plan=true)
  (hQ:∀ (t:Array Value) c (a:Act) w,Q (.panic c) { a with tmps:=t } w→Q (.panic c) a w) (hS:S w.drew) (h:z3q P ops Q S j0 plan a w.drew):(Code.region id ops true).wp P Q a w:=by
 simp only [zaP,Bool.and_eq_true,beq_iff_eq] at hB;obtain ⟨⟨h1,h2⟩,h3⟩:=hB;refine wp_region_any hm (z3k (S:=S) (j0:=j0) _ _ _ _ ?_);rw [← h2];rw [← h2] at h3;exact z1K h1 hQ plan _ a w.drew h3 (fun _=>hS) h
theorem z0b {a:Act} {w:World} (h:Q .normal a w):z3q P ops Q S j0 [] a w:=h
section
variable {l:List Oper} {i n:Nat} {rest:List (Nat×Nat)} {a:Act} {w:World}
theorem zr (h:∀ K:Act→Prop,(∀ a,z3q P l.toArray Q S j0 rest a w→K a)→match l[i]? with
  | none=>False
  | some o=>if Region.wanted o (yielded l.toArray a.tmps)=true then ∃ v,(∀ w,True→(execOp a.eval o).run P w=.ok (.value v) w)∧K (a.put o.dst v) else K (a.put o.dst undef)) :
  z3q P l.toArray Q S j0 ((i,0)::rest) a w:=by
 have h:=h _ fun _ h=>h
 cases ho:l[i]? with
 | none=>rw [ho] at h;exact h.elim
 | some o =>
  rw [ho] at h;have h:if Region.wanted o (yielded l.toArray a.tmps)=true then _ else _:=h
  by_cases hw:Region.wanted o (yielded l.toArray a.tmps)=true
  ·rw [if_pos hw] at h;obtain ⟨v,h1,h2⟩:=h;exact ⟨o,v,by simpa using ho,.inl ⟨hw,h1⟩,h2⟩
  ·rw [if_neg hw] at h;exact ⟨o,undef,by simpa using ho,.inr ⟨by simpa using hw,rfl⟩,h⟩
theorem zt (h:∀ K:Act→Prop,(∀ a,z3q P l.toArray Q S j0 rest a w→K a)→match l[i]? with
  | none=>False
  | some o=>if Region.wanted o (yielded l.toArray a.tmps)=true then ∃ v,(∀ w,S w→(execOp a.eval o).run P w=.ok (.value v) w)∧K (a.put o.dst v) else K (a.put o.dst undef)) :
  z3q P l.toArray Q S j0 ((i,1)::rest) a w:=by
 have h:=h _ fun _ h=>h
 cases ho:l[i]? with
 | none=>rw [ho] at h;exact h.elim
 | some o =>
  rw [ho] at h;have h:if Region.wanted o (yielded l.toArray a.tmps)=true then _ else _:=h
  by_cases hw:Region.wanted o (yielded l.toArray a.tmps)=true
  ·rw [if_pos hw] at h;obtain ⟨v,h1,h2⟩:=h;exact ⟨o,v,by simpa using ho,.inl ⟨hw,h1⟩,h2⟩
  ·rw [if_neg hw] at h;exact ⟨o,undef,by simpa using ho,.inr ⟨by simpa using hw,rfl⟩,h⟩
theorem zx (h:∀ K:Act→World→Prop,(∀ a w,(i≠j0→S w)∧z3q P l.toArray Q S j0 rest a w→K a w)→match l[i]? with
  | none=>False
  | some o=>if Region.wanted o (yielded l.toArray a.tmps)=true then o.wp P a w K Q else K (a.put o.dst undef) w) :
  z3q P l.toArray Q S j0 ((i,n+2)::rest) a w:=by
 have h:=h _ fun _ _ h=>h;show wpOp P l.toArray Q i _ a w;unfold wpOp;have e:l.toArray[i]?=l[i]?:=by simp
 rw [e]
 cases ho:l[i]? with
 | none=>rw [ho] at h;exact h.elim
 | some o =>
  rw [ho] at h;have h:if Region.wanted o (yielded l.toArray a.tmps)=true then _ else _:=h;show if Region.wanted o (yielded l.toArray a.tmps)=true then _ else _
  by_cases hw:Region.wanted o (yielded l.toArray a.tmps)=true
  ·rw [if_pos hw] at h ⊢;exact .inl h
  ·rw [if_neg hw] at h ⊢;exact h
theorem zpK {o:Oper} (ho:l[i]?=some o) (hw:Region.wanted o (yielded l.toArray a.tmps)=true) (h:∃ v,(∀ w,True→(execOp a.eval o).run P w=.ok (.value v) w)∧z3q P l.toArray Q S j0 rest (a.put o.dst v) w):z3q P l.toArray Q S j0 ((i,0)::rest) a w :=
 zr fun K hK=>by rw [ho];dsimp only;rw [if_pos hw];obtain ⟨v,hv,hk⟩:=h;exact ⟨v,hv,hK _ hk⟩
theorem zpJ {o:Oper} (ho:l[i]?=some o) (hw:Region.wanted o (yielded l.toArray a.tmps)=false) (hk:z3q P l.toArray Q S j0 rest (a.put o.dst undef) w):z3q P l.toArray Q S j0 ((i,0)::rest) a w :=
 zr fun K hK=>by rw [ho];dsimp only;rw [if_neg (ne_true_of_eq_false hw)];exact hK _ hk
theorem zpM {o:Oper} (ho:l[i]?=some o) (hw:Region.wanted o (yielded l.toArray a.tmps)=true) (h:∃ v,(∀ w,S w→(execOp a.eval o).run P w=.ok (.value v) w)∧z3q P l.toArray Q S j0 rest (a.put o.dst v) w):z3q P l.toArray Q S j0 ((i,1)::rest) a w :=
 zt fun K hK=>by rw [ho];dsimp only;rw [if_pos hw];obtain ⟨v,hv,hk⟩:=h;exact ⟨v,hv,hK _ hk⟩
theorem zpL {o:Oper} (ho:l[i]?=some o) (hw:Region.wanted o (yielded l.toArray a.tmps)=false) (hk:z3q P l.toArray Q S j0 rest (a.put o.dst undef) w):z3q P l.toArray Q S j0 ((i,1)::rest) a w :=
 zt fun K hK=>by rw [ho];dsimp only;rw [if_neg (ne_true_of_eq_false hw)];exact hK _ hk
theorem zt1 {o:Oper} {v:Value} {a':Act} (h:z3q P l.toArray Q S j0 rest a' w) (ho:l[i]?=some o:=by rfl) (hw:Region.wanted o (yielded l.toArray a.tmps)=true:=by rfl)
  (hx:∀ w,True→(execOp a.eval o).run P w=.ok (.value v) w:=by intro w hSw; (try dsimp only at hSw);go_simp;try with_reducible rfl) (ha:a.put o.dst v=a':=by simp only [Act.put,zqA,zqP,zqQ];rfl):z3q P l.toArray Q S j0 ((i,0)::rest) a w :=
 zpK ho hw ⟨v,hx,by rw [ha];exact h⟩
theorem zt0 {o:Oper} {a':Act} (h:z3q P l.toArray Q S j0 rest a' w) (ho:l[i]?=some o:=by rfl) (hw:Region.wanted o (yielded l.toArray a.tmps)=false:=by rfl) (ha:a.put o.dst undef=a':=by simp only [Act.put,zqA,zqP,zqQ];rfl):z3q P l.toArray Q S j0 ((i,0)::rest) a w :=
 zpJ ho hw (by rw [ha];exact h)
theorem zt3 {o:Oper} {v:Value} {a':Act} (h:z3q P l.toArray Q S j0 rest a' w) (ho:l[i]?=some o:=by rfl) (hw:Region.wanted o (yielded l.toArray a.tmps)=true:=by rfl)
  (hx:∀ w,S w→(execOp a.eval o).run P w=.ok (.value v) w:=by intro w hSw; (try dsimp only at hSw);go_simp;try with_reducible rfl) (ha:a.put o.dst v=a':=by simp only [Act.put,zqA,zqP,zqQ];rfl):z3q P l.toArray Q S j0 ((i,1)::rest) a w :=
 zpM ho hw ⟨v,hx,by rw [ha];exact h⟩
theorem zt2 {o:Oper} {a':Act} (h:z3q P l.toArray Q S j0 rest a' w) (ho:l[i]?=some o:=by rfl) (hw:Region.wanted o (yielded l.toArray a.tmps)=false:=by rfl) (ha:a.put o.dst undef=a':=by simp only [Act.put,zqA,zqP,zqQ];rfl):z3q P l.toArray Q S j0 ((i,1)::rest) a w :=
 zpL ho hw (by rw [ha];exact h)
theorem zpN {o:Oper} (ho:l[i]?=some o) (hw:Region.wanted o (yielded l.toArray a.tmps)=true) (h:∀ K:Act→World→Prop,(∀ a w,(i≠j0→S w)∧z3q P l.toArray Q S j0 rest a w→K a w)→o.wp P a w K Q):z3q P l.toArray Q S j0 ((i,n+2)::rest) a w :=
 zx fun K hK=>by rw [ho];dsimp only;rw [if_pos hw];exact h K hK
end
end
end Go.Sx
namespace Go.Proofs.YtgiiidminlhbpaaGreatDoor
open Go.RowKit Go.Sx Go.Dl
instance z5i:Enc Ck 2 where
 enc:=fun x=>[.int .i64 x.1,.int .i64 x.2]
 len:=fun _=>rfl
 one:=fun x u hu=>by
  simp only [List.mem_cons,List.not_mem_nil,or_false] at hu
  rcases hu with rfl | rfl<;>rfl
 dft:=(0,0)
 pos:=by decide
instance (x:Ck):z1v x 1 (.int .i64 x.2):=⟨rfl⟩
instance (x:Ck) (n:Int):z4e x 1 (.int .i64 n) (x.1,n):=⟨rfl,by decide⟩
theorem z6O:z1m Tryz.prog 107 154 2 16 (.agg #[.int .i64 0,.int .i64 0]):=⟨by kernel_rfl,by kernel_rfl,rfl⟩
instance:z63 Tryz.prog 107 Ck 2 z5i 154 16 (.agg #[.int .i64 0,.int .i64 0]):=⟨z6O,by decide⟩
instance (x y:Int):zgX z5i [.int .i64 x,.int .i64 y] [(x,y)]:=⟨rfl⟩
theorem z7o (w0 w:World) (F:HP) (g b o m vc lb cb:Nat) (x:Ck) (xs:List Value) (hw:z8K w g 2) (hs:Sat w0 w (pts g 0 [.int .i64 x.1,.int .i64 x.2]*(pts b o xs*F))) (hx:0<xs.length) (o':Nat) :
  g≠b∧(callFunc 85 #[.slice (some ⟨g,0,none⟩) m vc,.slice (some ⟨b,o',none⟩) lb cb]).run Tryz.prog w=.ok (.value (.bool false)) w:=by
 have hs2:=hs.pull (Q:=pts b o xs);have hc:=hs2.cell (j:=0) (List.getElem?_eq_getElem hx);have hne:g≠b:=by
  intro e;subst e;have hlt:=hw.lt hc;have:=hs.apart (j:=o) (j':=0) hlt hx;exact this (by simp)
 refine ⟨hne,?_⟩;obtain ⟨tA,hsa,hfe⟩:=hw;obtain ⟨tB,kB,hsb,hkB⟩:=z9E hc;rw [run_callFunc_extern Tryz.func85 (by kernel_rfl) (by kernel_rfl) (by kernel_rfl) (e:=Extern.SlicesOverlaps.overlaps #[107,107] #[4]) (by kernel_rfl),
  Lib.run_overlaps_apart w 107 4 154 z6O.ht 2 (fun w=>by kernel_rfl) ⟨g,0,none⟩ ⟨b,o',none⟩ m vc lb cb hne tA tB 2 kB hsa hsb hkB hs.f0 hfe]
 rfl
theorem z5Z (v:Value) (D:List Ck) (k g:Nat) (x1 x2:Int) (w0 w:World) (F:HP) (hs:Sat w0 w (z7 v D*(pts g 0 [.int .i64 x1,.int .i64 x2]*F))) (hw:z8K w g 2) (hk:k≤D.length) (hl:D.length≤256) :
  Calls Tryz.prog 69 #[v,.int .i64 k,.slice (some ⟨g,0,none⟩) 1 1] w (Ret w0 fun v'=>z7 v' (D.take k++(x1,x2)::D.drop k)*F):=by
 by_cases hke:k=D.length
 ·subst hke;obtain ⟨a,cap,rfl⟩:=hs.recs_form;have hrx:RdR w (.slice (some ⟨g,0,none⟩) 1 1) [(x1,x2)]:=⟨_,1,g,0,rfl,Nat.le_refl _,by simp [maxLen],fun _=>rfl,fun j u hj=>(hs.pull (Q:=pts g 0 [.int .i64 x1,.int .i64 x2])).cell (b:=g) (o:=0) hj⟩;haveI:RdC w z5i (.slice (some ⟨g,0,none⟩) 1 1) [(x1,x2)]:=⟨hrx⟩;have hq:=hs.rdR.caps;have hcm:cap≤maxLen:=hq.2.2;unfold maxLen at hcm;have hD:D.take D.length++(x1,x2)::D.drop D.length=D++[(x1,x2)]:=by simp
  rw [hD];have hn1:D.length≤cap:=hq.2.1
  by_cases hcz:cap=D.length
  ·subst hcz
   go_enter Tryz.func69,Tryz.ntmps69
   go_wp2_with (at_builtin;refine zA rfl rfl rfl rfl (by omega) ?_;intro ap ac aL aw ahL ah1 ah2 ahs _);go_ret;refine ⟨_,rfl,?_⟩;obtain rfl:=ahL.out;have h2:Sat w0 aw (z7 (.slice ap (D++[(x1,x2)]).length ac) (D++[(x1,x2)])*F):=z3;exact h2
  ·go_enter Tryz.func69,Tryz.ntmps69
   go_wp2_with (at_builtin;refine zA rfl rfl rfl rfl (by omega) ?_;intro ap ac aL aw ahL ah1 ah2 ahs _);go_ret;refine ⟨_,rfl,?_⟩;obtain rfl:=ahL.out;have h2:Sat w0 aw (z7 (.slice ap (D++[(x1,x2)]).length ac) (D++[(x1,x2)])*F):=z3;exact h2
 ·have hkl:k<D.length:=by omega
  rcases hs.slice_out with ⟨_,h0,_,_⟩ | ⟨b,off,cap,sp,rfl,hc,hcm,hx,hsp,hs'⟩
  ·omega
  unfold maxLen at hcm;have hk1:(k:Int)+1≤(D.length:Int):=by omega
  have hneI:((k:Int)==(D.length:Int))=false:=beq_eq_false_iff_ne.2 (by omega);have hkc:¬ cap=k:=by omega
  have e0:cellsOf D++sp=cellsOf (D.take k)++([.int .i64 (D.getD k (0,0)).1,.int .i64 (D.getD k (0,0)).2]++(cellsOf (D.drop (k+1))++sp)):=by
   have h1:D=D.take k++D.getD k (0,0)::D.drop (k+1):=by simp [List.getD,hkl]
   conv=>lhs;rw [h1]
   rw [z0g,zy,List.append_assoc,List.append_assoc];rfl
  have hlt:(cellsOf (D.take k)).length=k*2:=by rw [zJ,List.length_take,Nat.min_eq_left hk]
  have hld:(cellsOf (D.drop k)).length=(D.length-k)*2:=by rw [zJ,List.length_drop]
  have hld1:(cellsOf (D.drop (k+1))).length=(D.length-(k+1))*2:=by rw [zJ,List.length_drop]
  have hed:cellsOf (D.drop k)=[.int .i64 (D.getD k (0,0)).1,.int .i64 (D.getD k (0,0)).2]++cellsOf (D.drop (k+1)):=by
   have h1:D.drop k=D.getD k (0,0)::D.drop (k+1):=by rw [List.drop_eq_getElem_cons hkl];simp [List.getD,hkl]
   rw [h1,zy];rfl
  have hfin:cellsOf (D.take k++(x1,x2)::D.drop k)=cellsOf (D.take k)++[.int .i64 x1,.int .i64 x2]++cellsOf (D.drop k):=by
   rw [z0g,zy,← List.append_assoc];rfl
  have hfl:(D.take k++(x1,x2)::D.drop k).length=D.length+1:=by simp;omega
  generalize hA:cellsOf (D.take k)=A at *;generalize hB:cellsOf (D.drop (k+1))=B at *;generalize hC:cellsOf (D.drop k)=C at *;have hCo:∀ u∈C,u.oneCell'=true:=fun u hu=>z1f _ u (hC ▸ hu);have hXo:∀ u∈([.int .i64 x1,.int .i64 x2]:List Value),u.oneCell'=true:=z5i.one (x1,x2);have hsA:Sat w0 w (pts b off (A++[.int .i64 (D.getD k (0,0)).1,.int .i64 (D.getD k (0,0)).2]++(B++sp))*(pts g 0 [.int .i64 x1,.int .i64 x2]*F)):=hs'.perm (by rw [e0,← List.append_assoc]);generalize hy:([.int .i64 (D.getD k (0,0)).1,.int .i64 (D.getD k (0,0)).2]:List Value)=Y at *;have hyl:Y.length=2:=by rw [← hy];rfl
  have hCl:C=Y++B:=hed;obtain ⟨hgb, -⟩:=z7o w0 w F g b off 1 1 0 0 (x1,x2) (A++Y++(B++sp)) hw (hsA.perm (by ac_rfl)) (by simp;omega) 0;have hov:∀ lb cb o',(callFunc 85 #[.slice (some ⟨g,0,none⟩) 1 1,.slice (some ⟨b,o',none⟩) lb cb]).run Tryz.prog w=.ok (.value (.bool false)) w:=fun lb cb o' =>
   (z7o w0 w F g b off 1 1 lb cb (x1,x2) (A++Y++(B++sp)) hw (hsA.perm (by ac_rfl)) (by simp;omega) o').2
  clear e0 hed hs hs' hy hA hB hC
  by_cases hroom:D.length+1≤cap
  ·have hk1c:¬ cap=k+1:=by omega
   have hsp2:2≤sp.length:=by rw [hsp];omega
   have hnr:decide (cap<D.length+1)=false:=by rw [decide_eq_false_iff_not];omega
   have hnr':decide ((cap:Int)<(D.length:Int)+1)=false:=by rw [decide_eq_false_iff_not];omega
   go_enter Tryz.func69,Tryz.ntmps69
   go_wp2_with (simp only [hov]);have hsd:=hsA.drew;have hq1:(0:Int)≤(k:Int)+1:=by omega
   have hq2:(k:Int)+1≤(D.length:Int)+1:=by omega
   have hq3:(k:Int)≤(D.length:Int)+1:=by omega
   have hq4:IntKind.i64.wrap ((k:Int)+1)=(k:Int)+1:=by rw [IntKind.wrap_i64];omega
   have hq5:((k:Int)+1).toNat=k+1:=by omega
   go_still_tail 8,(by kernel_rfl)
   change wpList _ _ _ _ _ w.drew
   clear hq4 hq5;refine z0A (cs:=C) (xs:=A++Y) (ys:=B++sp) (o0:=off) rfl rfl z6O rfl rfl (by rw [hld];simp only [Nat.min_def];split<;>omega) ?_ hCo hsd (by rw [List.length_append,hlt,hyl];omega) (by rw [List.length_append,hld,hld1,hsp];omega) ?_
   ·intro j u hj;rw [Addr.add_lit];have hj':=(List.getElem?_eq_some_iff.1 hj).1;rw [show off+k*2+j=off+(A.length+j) by omega];refine (hsd.perm (by rw [List.append_assoc,← List.append_assoc Y B sp,← hCl])).cell ?_;rw [List.getElem?_append_right (by omega),Nat.add_sub_cancel_left,List.getElem?_append_left hj'];exact hj
   intro w1 hs1 hz1;have hdr:(B++sp).drop C.length=sp.drop 2:=by
    rw [List.drop_append,List.drop_eq_nil_of_le (by omega),List.nil_append]
    congr 1
    omega
   rw [hdr] at hs1;have hs2:Sat w0 w1 (pts b off (A++(Y++(C++sp.drop 2)))*(pts g 0 [.int .i64 x1,.int .i64 x2]*F)):=hs1.perm (by simp only [List.append_assoc]);clear hsd hs1 hsA hov;have hm1:([.int .i64 x1,.int .i64 x2]:List Value).length=Nat.min 1 (D.length+1-k)*2:=by
    simp only [Nat.min_def];split<;>(simp;try omega)
   have hsr:∀ j u,([.int .i64 x1,.int .i64 x2]:List Value)[j]?=some u→w1.cell? ((⟨g,0,none⟩:Addr).add j)=some u:=fun j u hj=>by
    rw [Addr.add_lit];exact (hs2.pull (Q:=pts g 0 [.int .i64 x1,.int .i64 x2])).cell hj
   have hy3:([.int .i64 x1,.int .i64 x2]:List Value).length≤(Y++(C++sp.drop 2)).length:=by simp;omega
   have HC:=hid hCl;clear hCl hdr;go_wp2_with (refine z0A (cs:=[.int .i64 x1,.int .i64 x2]) (xs:=A) (ys:=Y++(C++sp.drop 2)) (o0:=off) rfl rfl z6O rfl rfl hm1 hsr hXo hs2 (by rw [hlt]) hy3 ?_;intro w2 hs3 hz2);go_wp2_with fail;go_ret;refine ⟨_,rfl,?_⟩;have hd2:(Y++(C++sp.drop 2)).drop ([.int .i64 x1,.int .i64 x2]:List Value).length=C++sp.drop 2:=by
    show (Y++(C++sp.drop 2)).drop 2=_;rw [List.drop_append,List.drop_eq_nil_of_le (by omega),List.nil_append,hyl];rfl
   rw [hd2] at hs3;have h4:Sat w0 w2 (z7 (.slice (some ⟨b,off,none⟩) (D.length+1) cap) (D.take k++(x1,x2)::D.drop k)*(pts g 0 [.int .i64 x1,.int .i64 x2]*F)):=by
    unfold z7;rw [hfl,hfin];exact Sat.slice_in (sp:=sp.drop 2) (hs3.perm (by simp only [List.append_assoc])) hroom (by unfold maxLen;omega) (by simp;omega) (by rw [List.length_drop,hsp];omega)
   have h5:Sat w0 w2 (z7 (.slice (some ⟨b,off,none⟩) (D.length+1) cap) (D.take k++(x1,x2)::D.drop k)*F):=z3;exact h5
  ·have hcn:cap=D.length:=by omega
   subst hcn;have hsp0:sp=[]:=List.eq_nil_of_length_eq_zero (by omega);subst hsp0;have hnr:decide (D.length<D.length+1)=true:=by simp
   go_enter Tryz.func69,Tryz.ntmps69
   go_wp2_with (at_builtin;refine zad ?_);refine zlQ ?_;refine z4w (k:=D.length+1-k) (m:=D.length+1) (olds:=A) rfl rfl z6O (kn:=.i64) (by kernel_rfl) rfl rfl (by omega) (by omega) hsA (by rw [hlt]) ?_ (by omega) (by decide) (by omega) (by omega) (by decide) ?_
   ·intro j u hj;rw [Addr.add_lit];have hj':=(List.getElem?_eq_some_iff.1 hj).1;refine hsA.cell ?_;rw [List.append_assoc,List.getElem?_append_left hj'];exact hj
   intro w1 gc sp' hg1 hg2 hspl hs1 hz1;unfold maxLen at hg2;have hgk:¬ gc=k:=by omega
   have hgk1:¬ gc=k+1:=by omega
   have hzl:(Builtin.zeroCells (Value.agg #[.int .i64 0,.int .i64 0]).cells (D.length+1-k)).toList.length=(D.length+1-k)*2:=by
    have:=size_zeroCells (Value.agg #[.int .i64 0,.int .i64 0]).cells (D.length+1-k);rw [Array.length_toList,this];rfl
   generalize (Builtin.zeroCells (Value.agg #[.int .i64 0,.int .i64 0]).cells (D.length+1-k)).toList=Z at *;generalize w.heap.size=hb at *;have hs2:Sat w0 w1 (pts hb 0 (A++(Z++sp'))*(pts b off (A++Y++(B++[]))*(pts g 0 [.int .i64 x1,.int .i64 x2]*F))):=hs1.perm (by rw [List.append_assoc]);have hm1:([.int .i64 x1,.int .i64 x2]:List Value).length=Nat.min 1 (D.length+1-k)*2:=by
    simp only [Nat.min_def];split<;>(simp;try omega)
   have hsr:∀ j u,([.int .i64 x1,.int .i64 x2]:List Value)[j]?=some u→w1.cell? ((⟨g,0,none⟩:Addr).add j)=some u:=fun j u hj=>by
    rw [Addr.add_lit];exact (hs2.pull (Q:=pts g 0 [.int .i64 x1,.int .i64 x2])).cell hj
   have hy3:([.int .i64 x1,.int .i64 x2]:List Value).length≤(Z++sp').length:=by simp;omega
   have HC:=hid hCl;clear hCl hs1 hsA hov hgb;go_wp2_with (refine z0A (cs:=[.int .i64 x1,.int .i64 x2]) (xs:=A) (ys:=Z++sp') (o0:=0) rfl rfl z6O rfl rfl hm1 hsr hXo hs2 (by rw [hlt,Nat.zero_add]) hy3 ?_;intro w2 hs3 hz2);have hs4:Sat w0 w2 (pts hb 0 (A++[.int .i64 x1,.int .i64 x2]++(Z++sp').drop 2)*(pts b off (A++Y++(B++[]))*(pts g 0 [.int .i64 x1,.int .i64 x2]*F))):=hs3;have hsd:=hs4.drew;have hq1:(0:Int)≤(k:Int)+1:=by omega
   have hq2:(k:Int)+1≤(D.length:Int)+1:=by omega
   have hq3:(k:Int)≤(D.length:Int)+1:=by omega
   have hq4:IntKind.i64.wrap ((k:Int)+1)=(k:Int)+1:=by rw [IntKind.wrap_i64];omega
   have hq5:((k:Int)+1).toNat=k+1:=by omega
   clear hs2 hs3 hs4 hsr;go_wp2_with fail
   go_still_tail 8,(by kernel_rfl)
   change wpList _ _ _ _ _ w2.drew
   clear hq4 hq5;refine z0A (cs:=C) (xs:=A++[.int .i64 x1,.int .i64 x2]) (ys:=(Z++sp').drop 2) (o0:=0) rfl rfl z6O rfl rfl (by rw [hld];simp only [Nat.min_def];split<;>omega) ?_ hCo hsd (by rw [List.length_append,hlt];show _=0+(k*2+2);omega) (by rw [List.length_drop,List.length_append,hld,hzl];omega) ?_
   ·intro j u hj;rw [Addr.add_lit];have hj':=(List.getElem?_eq_some_iff.1 hj).1;rw [show off+k*2+j=off+(A.length+j) by omega];refine ((hsd.pull (Q:=pts b off (A++Y++(B++[])))).perm (by rw [List.append_nil,List.append_assoc,← HC.out])).cell ?_;rw [List.getElem?_append_right (by omega),Nat.add_sub_cancel_left];exact hj
   intro w3 hs5 hz3;go_wp2_with fail;go_ret;refine ⟨_,rfl,?_⟩;have h4:Sat w0 w3 (z7 (.slice (some ⟨hb,0,none⟩) (D.length+1) gc) (D.take k++(x1,x2)::D.drop k)*(pts b off (A++Y++(B++[]))*(pts g 0 [.int .i64 x1,.int .i64 x2]*F))):=by
    unfold z7;rw [hfl,hfin];exact Sat.slice_in (sp:=((Z++sp').drop 2).drop C.length) (hs5.perm (by simp only [List.append_assoc])) hg1 (by unfold maxLen;omega) (by simp;omega) (by rw [List.length_drop,List.length_drop,List.length_append];omega)
   have h5:Sat w0 w3 (z7 (.slice (some ⟨hb,0,none⟩) (D.length+1) gc) (D.take k++(x1,x2)::D.drop k)*F):=z3;exact h5
theorem zgu (c x id:Int) (cb:Nat) (w0 w:World) (F:HP) (hs:Sat w0 w (pts cb 0 [.int .i64 id]*F)) :
  Calls Tryz.prog 136 #[.agg #[.int .i64 c,.int .i64 x],.pointer (some ⟨cb,0,none⟩)] w (zp w0 (.bool (c==id)) (pts cb 0 [.int .i64 id]*F)):=by
 go_enter Tryz.func136,Tryz.ntmps136
 go_wp2_with fail;go_ret;exact ⟨rfl,z3⟩
theorem zjH {D:List Ck} {k:Nat} {id:Int} (hk:k<D.length) (hn:∀ x∈D.take k,x.1≠id) (h:(D.getD k (0,0)).1≠id):∀ x∈D.take (k+1),x.1≠id:=by
 intro x hx;rw [List.take_succ_eq_append_getElem hk,List.mem_append] at hx
 rcases hx with hx | hx
 ·exact hn x hx
 ·obtain rfl:x=D[k]:=by simpa using hx
  simpa [List.getD,hk] using h
theorem z7K (v:Value) (D:List Ck) (id:Int) (cb:Nat) (w0 w:World) (F:HP) (hs:Sat w0 w (z7 v D*(pts cb 0 [.int .i64 id]*F))) (hi:has D id) (hl:D.length≤256) :
  Calls Tryz.prog 135 #[v,.func (.func 136) #[] #[.pointer (some ⟨cb,0,none⟩)]] w (zp w0 (.int .i64 (at_ D id)) (z7 v D*(pts cb 0 [.int .i64 id]*F))):=by
 have eg:∀ args w,(callFunc 136 args).run Tryz.prog w=.ok (.enter 136 args) w:=Go.Proofs.enters_of Tryz.func136 (by kernel_rfl) rfl;have hat:=zh2 hi;have hidx:∀ D':List Ck,(∀ x∈D',x.1≠id)→¬ has D' id:=fun D' h h'=>by obtain ⟨x,hx,hxe⟩:=List.mem_map.1 h';exact h x hx hxe
 have hidx:=hid (hidx D);have Hi:=hid hi;obtain ⟨a,cap,rfl⟩:=hs.recs_form
 rcases hs.slice_out with ⟨_,h0,_,_⟩ | ⟨g,off,cap',sp,e, -, -, -, -, -⟩
 ·omega
 simp only [Value.slice.injEq] at e;obtain ⟨rfl, -,rfl⟩:=e
 go_enter Tryz.func135,Tryz.ntmps135
 go_wp2_with fail
 go_loopw [5,8] (fun _ i wr=>∃ k:Nat,k<D.length∧i=.int .i64 k∧(∀ x∈D.take k,x.1≠id)∧Sat w0 wr (z7 (.slice (some ⟨g,off,none⟩) D.length cap) D*(pts cb 0 [.int .i64 id]*F))) (fun _ i _=>D.length-(intOf i).toNat)
 case atStart=>exact ⟨0,by omega,rfl,by simp,hs⟩
 case round =>
  obtain ⟨k,hk,rfl,hn,hs2⟩:=hrel;have hnx:=hid (zjH (id:=id) hk hn);have hfi:=hid (zh1 (id:=id) hk);generalize hDk:D.getD k (0,0)=p at *;obtain ⟨c,x⟩:=p;haveI:Lt k D.length:=⟨hk⟩;haveI e0:z1v (D.getD k (0,0)) 0 (.int .i64 c):=⟨by rw [hDk];rfl⟩;haveI e1:z1v (D.getD k (0,0)) 1 (.int .i64 x):=⟨by rw [hDk];rfl⟩;have Hn:=hid hn;have Hdk:=hid hDk;clear hn hDk hs hi;have hkd:decide (k<D.length)=true:=by simp [hk]
  go_wp2_with fail;refine (zgu c x id cb w0 _ _ own).mono ?_;rintro e w2 ⟨rfl,hs3⟩
  by_cases hc:c=id
  ·have hb:(c==id)=true:=by simp [hc]
   rw [hb];have hres:=hid (hfi.out hc Hn.out);clear hc hb;go_wp2_with fail;go_ret;exact ⟨by rw [hres.out];rfl,z3⟩
  ·have hb:(c==id)=false:=by simp [hc]
   rw [hb];have hn2:=hid (hnx.out hc);have hk2:k+1<D.length:=by
    refine Nat.lt_of_le_of_ne hk fun e=>?_;have h1:=hn2.out;rw [List.take_of_length_le (by omega)] at h1;exact hidx.out h1 Hi.out
   clear hc hb;go_wp2_with fail;go_roundw
   case rel=>exact ⟨k+1,hk2,by go_num,hn2.out,z3⟩
   case measure=>simp [intOf];omega
theorem z50 (v:Value) (D:List Ck) (k:Nat) (k1:Int) (hk1:k1=k+1) (w0 w:World) (F:HP) (hs:Sat w0 w (z7 v D*F)) (hk:k<D.length) (hl:D.length≤256) :
  Calls Tryz.prog 137 #[v,.int .i64 k,.int .i64 k1] w (Ret w0 fun v'=>z7 v' (D.eraseIdx k)*F):=by
 rcases hs.slice_out with ⟨_,h0,_,_⟩ | ⟨g,off,cap,sp,rfl,hc,hcm,hx,hsp,hs'⟩
 ·omega
 unfold maxLen at hcm;subst hk1;have e0:cellsOf D++sp=cellsOf (D.take k)++([.int .i64 (D.getD k (0,0)).1,.int .i64 (D.getD k (0,0)).2]++(cellsOf (D.drop (k+1))++sp)):=by
  have h1:D=D.take k++D.getD k (0,0)::D.drop (k+1):=by simp [List.getD,hk]
  conv=>lhs;rw [h1]
  rw [z0g,zy,List.append_assoc,List.append_assoc];rfl
 have hfin:cellsOf (D.eraseIdx k)=cellsOf (D.take k)++cellsOf (D.drop (k+1)):=by rw [List.eraseIdx_eq_take_drop_succ,z0g]
 have hfl:(D.eraseIdx k).length=D.length-1:=by simp [List.length_eraseIdx,hk]
 have hlt:(cellsOf (D.take k)).length=k*2:=by rw [zJ,List.length_take,Nat.min_eq_left (Nat.le_of_lt hk)]
 have hld1:(cellsOf (D.drop (k+1))).length=(D.length-(k+1))*2:=by rw [zJ,List.length_drop]
 generalize hA:cellsOf (D.take k)=A at *;generalize hB:cellsOf (D.drop (k+1))=B at *;have hBo:∀ u∈B,u.oneCell'=true:=fun u hu=>z1f _ u (hB ▸ hu);generalize hy:([.int .i64 (D.getD k (0,0)).1,.int .i64 (D.getD k (0,0)).2]:List Value)=Y at *;have hyl:Y.length=2:=by rw [← hy];rfl
 have hsA:Sat w0 w.drew (pts g off (A++(Y++(B++sp)))*F):=hs'.drew.perm (by rw [e0]);clear e0 hs hs' hA hB hy;have hnews:∀ j u,B[j]?=some u→w.drew.cell? ((⟨g,off+(k+1)*2,none⟩:Addr).add j)=some u:=fun j u hj=>by
  rw [Addr.add_lit,show off+(k+1)*2+j=off+(A.length+(Y.length+j)) by omega];refine hsA.cell ?_;have hj':=(List.getElem?_eq_some_iff.1 hj).1;rw [List.getElem?_append_right (by omega),Nat.add_sub_cancel_left,List.getElem?_append_right (by omega),Nat.add_sub_cancel_left,List.getElem?_append_left hj'];exact hj
 have hsp':∀ j,j<B.length→(w.drew.cell? ⟨g,off+k*2+j,none⟩).isSome=true∧w.drew.frozen? ⟨g,off+k*2+j,none⟩=false:=fun j hj=>by
  rw [Nat.add_assoc];refine ⟨?_,hsA.frz (by simp;omega)⟩;rw [hsA.cell (j:=k*2+j) (List.getElem?_eq_getElem (by simp;omega))];rfl
 have hs2:=Sat.setCells B w.drew A (Y++(B++sp)) hsA (by simp;omega);have hT:(Y++(B++sp)).drop B.length=(Y++B).drop B.length++sp:=by
  rw [← List.append_assoc,List.drop_append_of_le_length (by simp)]
 rw [hT] at hs2;have hyl2:((Y++B).drop B.length).length=1*2:=by simp;omega
 generalize (Y++B).drop B.length=Y2 at *;have hAB:(A++B).length=(D.length-1)*2:=by simp;omega
 have hs3:=hs2.perm (congrArg (· * F) (zd _ _ _ _));have hs4:=hs3.perm (congrArg (fun x=>_ * x * F) (zd _ _ _ _));rw [hAB,hlt,hyl2] at hs4;have hs5:=hs4.perm (by ac_rfl : _ = pts g (off + (D.length - 1) * 2) Y2 * (pts g off (A ++ B) * (pts g (off + (D.length - 1) * 2 + 1 * 2) sp * F)));clear hs2 hs3 hs4 hT;have e0 : (Builtin.zeroCells (Value.agg #[.int .i64 0,.int .i64 0]).cells 1).toList = [Value.int .i64 0,Value.int .i64 0]:=by kernel_rfl
 have hone:∀ u∈(Builtin.zeroCells (Value.agg #[.int .i64 0,.int .i64 0]).cells 1).toList,u.oneCell'=true:=by rw [e0];simp [Value.oneCell']
 have fin:∀ (w':World) (cp:Nat),Sat w0 w' (pts g (off+(D.length-1)*2) (Builtin.zeroCells (Value.agg #[.int .i64 0,.int .i64 0]).cells 1).toList*(pts g off (A++B)*(pts g (off+(D.length-1)*2+1*2) sp*F))) →
   D.length≤cp→cp≤maxLen→sp.length=(cp-D.length)*2→Sat w0 w' (z7 (.slice (some ⟨g,off,none⟩) (D.length-1) cp) (D.eraseIdx k)*F):=fun w' cp h h1 h2 h3=>by
  rw [e0] at h;have e1:pts g off (A++B++([Value.int .i64 0,Value.int .i64 0]++sp))=pts g off (A++B)*(pts g (off+(D.length-1)*2) [Value.int .i64 0,Value.int .i64 0]*pts g (off+(D.length-1)*2+1*2) sp):=by
   rw [zd g off (A++B),zd g _ [Value.int .i64 0,Value.int .i64 0] sp,hAB];rfl
  have h4:Sat w0 w' (pts g off (A++B++([Value.int .i64 0,Value.int .i64 0]++sp))*F):=by
   rw [e1];exact h.perm (by ac_rfl)
  unfold z7;rw [hfl,hfin];exact Sat.slice_in h4 (by omega) h2 hAB (by simp;omega)
 have hkc:k≤cap:=by omega
 have hkl:k+1≤D.length:=by omega
 have hkI:(k:Int)+1≤(D.length:Int):=by omega
 have hk0:(0:Int)≤(k:Int)+1:=by omega
 have hk00:(k:Int)≤(k:Int)+1:=by omega
 have hlk1:D.length-1≤D.length:=by omega
 have hsz:0<D.length:=by omega
 have hq:k+(D.length-(k+1))=D.length-1:=by omega
 have hq1:D.length-(D.length-1)=1:=by omega
 by_cases hne:cap=k+1
 ·subst hne;have hl1:D.length-(k+1)=0:=by omega
  have hnil:B=[]:=List.eq_nil_of_length_eq_zero (by omega);subst hnil
  go_enter Tryz.func137,Tryz.ntmps137
  go_wp2_with fail
  go_still_tail 6,(by kernel_rfl)
  change wpList _ _ _ _ _ w.drew
  refine z0M (by rfl) (.tmp 22) (.tmp 25) (by rfl) z6O g off k (k+1) (by rfl) _ 0 _ [] (by rfl) rfl (fun j u h=>by cases h) (fun u h=>by cases h) (by omega) (fun j h=>absurd h (Nat.not_lt_zero _)) ?_;rw [show k+0=D.length-1 by omega];generalize w.drew.setCells g (off+k*2) []=w1 at hs5 ⊢;clear hsp' hnews hsA;go_wp2_with (refine z2D (o:=⟨none,_,_,_,_,_⟩) (by rfl) (.tmp 31) (by rfl) z6O (b:=g) (off:=off+(D.length-1)*2) (n:=1) (cap:=k+1-(D.length-1)) (by rfl) (by decide) hs5 hyl2 hone ?_;intro w' hs');go_wp2;go_ret;exact ⟨_,rfl,fin _ _ hs' (by omega) (by unfold maxLen;omega) (by omega)⟩
 ·go_enter Tryz.func137,Tryz.ntmps137
  go_wp2_with fail
  go_still_tail 6,(by kernel_rfl)
  change wpList _ _ _ _ _ w.drew
  refine z0M (by rfl) (.tmp 22) (.tmp 25) (by rfl) z6O g off k cap (by rfl) _ (D.length-(k+1)) _ B (by rfl) hld1 hnews hBo (by omega) hsp' ?_;rw [hq];generalize w.drew.setCells g (off+k*2) B=w1 at hs5 ⊢;clear hsp' hnews hsA;go_wp2_with (refine z2D (o:=⟨none,_,_,_,_,_⟩) (by rfl) (.tmp 31) (by rfl) z6O (b:=g) (off:=off+(D.length-1)*2) (n:=1) (cap:=cap-(D.length-1)) (by rfl) (by decide) hs5 hyl2 hone ?_;intro w' hs');go_wp2;go_ret;exact ⟨_,rfl,fin _ _ hs' (by omega) (by unfold maxLen;omega) (by omega)⟩
end Go.Proofs.YtgiiidminlhbpaaGreatDoor
namespace Go.Proofs.YtgiiidminlhbpaaGreatDoor
open Go.RowKit Go.Sx
theorem z5h:z1m Tryz.prog 24 3 1 8 (.int .i64 0):=⟨by kernel_rfl,by kernel_rfl,rfl⟩
def idx (l:List Int) (t:Int):Int:=if t∈l then (l.idxOf t:Int) else -1
theorem zf6 {l:List Int} {t:Int} {k:Nat} (hk:k<l.length) (h:l[k]=t) (hn:t ∉ l.take k):idx l t=k:=by
 have hm:t∈l:=by rw [← h];exact List.getElem_mem hk
 unfold idx;rw [if_pos hm];have hd:l=l.take k++l[k]::l.drop (k+1):=by simp
 congr 1
 rw [hd,h,List.idxOf_append,if_neg hn,List.idxOf_cons_self];simp;omega
theorem zcU {l:List Int} {t:Int} {k:Nat} (hk:l.length≤k) (hn:t ∉ l.take k):idx l t=-1:=by
 unfold idx;rw [if_neg (by rwa [List.take_of_length_le hk] at hn)]
theorem z8t {l:List Int} {t:Int} {k:Nat} (hk:k<l.length) (h:l[k]≠t) (hn:t ∉ l.take k):t ∉ l.take (k+1):=by
 rw [List.take_succ_eq_append_getElem hk,List.mem_append];rintro (h1 | h1)
 ·exact hn h1
 ·simp at h1;exact h h1.symm
theorem z5m {l:List Int} {t:Int}:decide (0≤idx l t)=decide (t∈l):=by
 unfold idx;split<;>simp [*]
theorem z7J (v:Value) (l:List Int) (t:Int) (w:World) (h:RdN .i64 w v l) :
  Calls Tryz.prog 133 #[v,.int .i64 t] w fun e w'=>e=.returned (.int .i64 (idx l t))∧w=w':=by
 obtain ⟨a,cap,b,off,rfl,hcap,hbig,ha,hc⟩:=h;unfold maxLen at hbig
 go_enter Tryz.func133,Tryz.ntmps133
 go_wp2
 go_loop [8] (fun i=>∃ k:Nat,k≤l.length∧i=.int .i64 k∧t ∉ l.take k) (fun i=>l.length-(intOf i).toNat)
 case atStart=>exact ⟨0,Nat.zero_le _,rfl,by simp⟩
 case round =>
  obtain ⟨k,hk,rfl,hn⟩:=hrel
  by_cases hlt:k<l.length
  ·obtain rfl:=ha (by intro h;simp [h] at hlt);have hcell:=hc k hlt;clear hc ha;go_wp2
   ·go_ret;have e:(t==l[k])=true:=by assumption
    exact ⟨by rw [zf6 hlt (by simpa using (beq_iff_eq.1 e).symm) hn];rfl,rfl⟩
   ·go_round
    have e:(t==l[k])=false:=by assumption
    case rel=>exact ⟨k+1,by omega,by go_num,z8t hlt (fun h=>by rw [h] at e;simp at e) hn⟩
    case measure=>simp [intOf];omega
  ·clear hc ha;go_wp2;go_ret;exact ⟨by rw [zcU (by omega) hn];rfl,rfl⟩
theorem z85 (v:Value) (l:List Int) (t:Int) (w:World) (h:RdN .i64 w v l) :
  Calls Tryz.prog 156 #[v,.int .i64 t] w fun e w'=>e=.returned (.bool (decide (t∈l)))∧w=w':=by
 go_enter Tryz.func156,Tryz.ntmps156
 go_wp2_with fail;refine (z7J v l t _ h).mono ?_;rintro e w' ⟨rfl,rfl⟩;go_wp2;go_ret;exact ⟨by rw [← z5m];rfl,rfl⟩
theorem z0V (v:Value) (l:List Int) (w0 w:World) (F:HP) (hs:Sat w0 w F) (h:RdN .i64 w v l) (hl:l.length≤1000000) :
  Calls Tryz.prog 16 #[v] w (Ret w0 fun v'=>z5 .i64 v' l*F):=by
 obtain ⟨a,cap,b,off,rfl,hcap,hbig,ha,hc⟩:=id h;have hnw:=h.news;clear hc ha;have q:∀ (w:World) (a:Option Addr) (n c:Nat),(binOp .eql 24 (.slice a n c) (.slice none 0 0)).run Tryz.prog w=.ok (.bool a.isNone) w:=fun w a n c=>Lib.run_eql_slice_nil w _ _ a n c 0 0 Tryz.underlying24
 cases a with
 | none =>
  have h0:=hnw.2.1 rfl;have hl0:l=[]:=List.eq_nil_of_length_eq_zero h0;subst hl0;clear h hnw
  go_enter Tryz.func16,Tryz.ntmps16
  go_wp2;go_ret;exact ⟨_,rfl,hs.slice_nil 1⟩
 | some ad =>
  go_enter Tryz.func16,Tryz.ntmps16
  go_wp2_with (at_builtin;refine z00 (by rfl) (.tmp 5) (.tmp 6) (by rfl) z5h (by rfl) (hs.empty_slice 1 3) (some ad) l.length cap (l.map (Value.int .i64)) (by rfl) (by simp) (by simp) (fun a' ha' j u hj=>z1i (hnw.2.2 a' ha' j u hj) _) (z1R l) (by unfold maxLen;omega) (by omega) ?_);intro v' w' hs' _;go_wp2;go_ret;exact ⟨_,rfl,by simpa [z5] using hs'⟩
def z2F (l:List Int):Prop:=l.Nodup∧∀ t∈l,0≤t∧t<64
def zY (b o:Nat) (l:List Int):HP:=ex fun v=>pts b o [v]*z5 .i64 v l
theorem z4t {w0 w:World} {F:HP} {b o:Nat} {v:Value} {l:List Int} (hs:Sat w0 w (pts b o [v]*(z5 .i64 v l*F))):Sat w0 w (zY b o l*F) :=
 Sat.ex_in (f:=fun v=>pts b o [v]*z5 .i64 v l) v (hs.perm (by ac_rfl))
theorem z4N:∀ (l l':List Nat),l.Nodup→l ⊆ l'→l.length≤l'.length
 | [],_,_,_=>Nat.zero_le _
 | a::l,l',nd,sub=>by
  have ha:a∈l':=sub (by simp);rw [List.nodup_cons] at nd;have h:=z4N l (l'.erase a) nd.2 (fun x hx=>(List.mem_erase_of_ne (by rintro rfl;exact nd.1 hx)).2 (sub (by simp [hx])));rw [List.length_erase_of_mem ha] at h;have:=List.length_pos_of_mem ha;simp;omega
theorem z0J {l:List Int} (h:z2F l):l.length≤64:=by
 have h1:(l.map Int.toNat).Nodup:=by
  rw [List.nodup_iff_pairwise_ne,List.pairwise_map];refine h.1.imp_of_mem ?_;intro a b ha hb hne e;have:=h.2 a ha;have:=h.2 b hb;omega
 have h2:(l.map Int.toNat) ⊆ List.range 64:=by
  intro x hx;obtain ⟨t,ht,rfl⟩:=List.mem_map.1 hx;have:=h.2 t ht;rw [List.mem_range];omega
 simpa using z4N _ _ h1 h2
theorem z7G (b o:Nat) (l:List Int) (t:Int) (w0 w:World) (F:HP) (hs:Sat w0 w (zY b o l*F)) :
  Calls Tryz.prog 132 #[.pointer (some ⟨b,o,none⟩),.int .i64 t] w fun e w'=>e=.returned (.bool (decide (t∈l)))∧w=w':=by
 obtain ⟨v,hs1⟩:=hs.ex_out;have c0:=(hs1.perm (by ac_rfl:_=pts b o [v]*(z5 .i64 v l*F))).c0;have hr:=(hs1.perm (by ac_rfl:_=z5 .i64 v l*(pts b o [v]*F))).rdN
 go_enter Tryz.func132,Tryz.ntmps132
 go_wp2_with fail;refine (z85 v l t _ hr).mono ?_;rintro e w' ⟨rfl,rfl⟩;go_wp2;go_ret;exact ⟨rfl,rfl⟩
theorem zdn (b o:Nat) (l:List Int) (w0 w:World) (F:HP) (hs:Sat w0 w (zY b o l*F)) (hl:l.length≤1000000) :
  Calls Tryz.prog 82 #[.pointer (some ⟨b,o,none⟩)] w (Ret w0 fun v'=>z5 .i64 v' l*(zY b o l*F)):=by
 obtain ⟨v,hs1⟩:=hs.ex_out;have c0:=(hs1.perm (by ac_rfl:_=pts b o [v]*(z5 .i64 v l*F))).c0;have hr:=(hs1.perm (by ac_rfl:_=z5 .i64 v l*(pts b o [v]*F))).rdN
 go_enter Tryz.func82,Tryz.ntmps82
 go_wp2_with fail;refine (z0V v l w0 _ _ hs hr hl).mono ?_;rintro e w' ⟨v',rfl,hs'⟩;go_wp2;go_ret;exact ⟨v',rfl,hs'⟩
def z65 (l:List Int) (t:Int):Prop:=0≤t∧t<64∧t ∉ l
instance (l:List Int) (t:Int):Decidable (z65 l t):=by unfold z65;infer_instance
theorem zgq (b o:Nat) (l:List Int) (t:Int) (w0 w:World) (F:HP) (hs:Sat w0 w (zY b o l*F)) (hn:¬ z65 l t) :
  Calls Tryz.prog 160 #[.pointer (some ⟨b,o,none⟩),.int .i64 t] w fun e w'=>e=.returned (.int .i64 1)∧w=w':=by
 by_cases h1:t<0
 ·go_enter Tryz.func160,Tryz.ntmps160
  go_wp2_with fail;go_ret;exact ⟨rfl,rfl⟩
 ·by_cases h2:64≤t
  ·go_enter Tryz.func160,Tryz.ntmps160
   go_wp2_with fail;go_ret;exact ⟨rfl,rfl⟩
  ·have hm:t∈l:=Decidable.byContradiction fun h=>hn ⟨by omega,by omega,h⟩
   go_enter Tryz.func160,Tryz.ntmps160
   go_wp2_with fail;refine (z7G b o l t _ _ _ hs).mono ?_;rintro e w' ⟨rfl,rfl⟩;go_wp2_with fail;go_ret;exact ⟨rfl,rfl⟩
theorem z8x (b o:Nat) (l:List Int) (t:Int) (w0 w:World) (F:HP) (hs:Sat w0 w (zY b o l*F)) (hn:z65 l t) (hl:l.length≤1000000) :
  Calls Tryz.prog 160 #[.pointer (some ⟨b,o,none⟩),.int .i64 t] w (zp w0 (.int .i64 0) (zY b o (l++[t])*F)):=by
 obtain ⟨v,hs1⟩:=hs.ex_out;have hs2:=hs1.perm (by ac_rfl:_=z5 .i64 v l*(pts b o [v]*F));have c0:=(hs1.perm (by ac_rfl:_=pts b o [v]*(z5 .i64 v l*F))).c0;obtain ⟨h1,h2,h3⟩:=hn;have hd:decide (t∈l)=false:=by simp [h3]
 go_enter Tryz.func160,Tryz.ntmps160
 go_wp2_with fail;refine (z7G b o l t _ _ _ hs).mono ?_;rintro e w' ⟨rfl,rfl⟩;rw [hd];clear hd;go_wp2_with (at_builtin;refine z1F (by rfl) (.tmp 24) (.tmp 26) (by rfl) z5h (by rfl) hs2 (by rfl) (by rfl) (by simp [Value.oneCell']) (by unfold maxLen;omega) (by omega) ?_);intro v' w' hs' _;obtain ⟨a',cap',rfl⟩:=hs'.slice_form;have hs3:=hs'.perm (by ac_rfl:_=pts b o [v]*(zX 1 (.slice a' (l.length+1) cap') (l.length+1) (l.map (Value.int .i64)++[Value.int .i64 t])*F));have c0':=hs3.c0;have f0':=hs3.f0;go_wp2;go_ret;refine ⟨rfl,z4t (v:=.slice a' (l.length+1) cap') ?_⟩
 simpa [z5] using hs3.set0 (.slice a' (l.length+1) cap')
theorem zbv (l:List Int) (k:Nat) (hk:k<l.length) (f:Int→Value) (sp:List Value) :
  (l.take k).map f++(l.drop (k+1)).map f++((l.drop k).map f++sp).drop ((l.drop (k+1)).map f).length=(l.eraseIdx k).map f++([f (l.getD (l.length-1) 0)]++sp):=by
 rw [List.eraseIdx_eq_take_drop_succ,List.map_append]
 congr 1
 have h1:((l.drop k).map f++sp).drop ((l.drop (k+1)).map f).length=((l.drop k).map f).drop (l.length-(k+1))++sp:=by
  rw [List.drop_append_of_le_length (by simp;omega)];simp
 rw [h1]
 congr 1
 rw [← List.map_drop,List.drop_drop,show k+(l.length-(k+1))=l.length-1 by omega,List.drop_eq_getElem_cons (by omega),show l.length-1+1=l.length by omega];simp [List.getD,show l.length-1<l.length by omega]
theorem zb9 (v:Value) (l:List Int) (k:Nat) (w0 w:World) (F:HP) (hs:Sat w0 w (z5 .i64 v l*F)) (hk:k<l.length) (hl:l.length≤1000000) (k1:Int) (hk1:k1=k+1) :
  Calls Tryz.prog 134 #[v,.int .i64 k,.int .i64 k1] w (Ret w0 fun v'=>z5 .i64 v' (l.eraseIdx k)*F):=by
 rcases hs.slice_out with ⟨_,h0,_,_⟩ | ⟨g,off,cap,sp,rfl,hc,hcm,hx,hsp,hs'⟩
 ·omega
 unfold maxLen at hcm;subst hk1;have hs1:Sat w0 w.drew (pts g off ((l.take k).map (Value.int .i64)++((l.drop k).map (Value.int .i64)++sp))*F):=hs'.drew.perm (by rw [← List.append_assoc,← List.map_append,List.take_append_drop]);obtain ⟨i,hi,h2,h3,h4⟩:=info_parts z5h.hi;have hlt:((l.drop (k+1)).map (Value.int .i64)).length=(l.length-(k+1))*1:=by simp
 have hnews:∀ j u,((l.drop (k+1)).map (Value.int .i64))[j]?=some u→w.drew.cell? ((⟨g,off+(k+1),none⟩:Addr).add j)=some u:=fun j u hj=>by
  rw [Addr.add_lit,Nat.add_assoc];refine hs'.drew.cell ?_;have hj':=(List.getElem?_eq_some_iff.1 hj).1;simp at hj';rw [List.getElem?_append_left (by simp;omega)];rw [List.getElem?_map,List.getElem?_drop] at hj;rw [List.getElem?_map];exact hj
 have hsp':∀ j,j<((l.drop (k+1)).map (Value.int .i64)).length→(w.drew.cell? ⟨g,off+k*1+j,none⟩).isSome=true∧w.drew.frozen? ⟨g,off+k*1+j,none⟩=false:=fun j hj=>by
  simp at hj;rw [Nat.mul_one,Nat.add_assoc];refine ⟨?_,hs'.drew.frz (by simp;omega)⟩;rw [hs'.drew.cell (j:=k+j) (List.getElem?_eq_getElem (by simp;omega))];rfl
 have hs2:=Sat.setCells ((l.drop (k + 1)).map (Value.int .i64)) w.drew ((l.take k).map (Value.int .i64)) ((l.drop k).map (Value.int .i64) ++ sp) hs1 (by simp;omega);rw [zbv l k hk] at hs2;have hs3:=hs2.perm (congrArg (· * F) (zd _ _ _ _));have hs4:=hs3.perm (congrArg (fun x=>_ * x * F) (zd _ _ _ _));have hs5:=hs4.perm (by ac_rfl : _ = pts g (off + ((l.eraseIdx k).map (Value.int .i64)).length) [Value.int .i64 (l.getD (l.length - 1) 0)] * (pts g off ((l.eraseIdx k).map (Value.int .i64)) * pts g (off + ((l.eraseIdx k).map (Value.int .i64)).length + [Value.int .i64 (l.getD (l.length - 1) 0)].length) sp * F));clear hs2 hs3 hs4;have hle : ((l.eraseIdx k).map (Value.int .i64)).length = l.length - 1:=by simp [List.length_eraseIdx,hk]
 have hlk:((l.take k).map (Value.int .i64)).length=k:=by simp;omega
 rw [hle,hlk] at hs5;have hkc:k≤cap:=by omega
 have hkl:k+1≤l.length:=by omega
 have hkI:(k:Int)+1≤(l.length:Int):=by omega
 have hk0:(0:Int)≤(k:Int)+1:=by omega
 have hk00:(k:Int)≤(k:Int)+1:=by omega
 have hlk1:l.length-1≤l.length:=by omega
 have hnews2:cap=k+1→∀ (ad:Addr) j u,((l.drop (k+1)).map (Value.int .i64))[j]?=some u→w.drew.cell? (ad.add j)=some u:=fun h ad j u hj=>by
  have:=(List.getElem?_eq_some_iff.1 hj).1;simp at this;omega
 have hsz:0<l.length:=by omega
 have hq:k+(l.length-(k+1))=l.length-1:=by omega
 have hq1:l.length-(l.length-1)=1:=by omega
 have e0:(Builtin.zeroCells (Value.int .i64 0).cells 1).toList=[Value.int .i64 0]:=by kernel_rfl
 have hone:∀ u∈(Builtin.zeroCells (Value.int .i64 0).cells 1).toList,u.oneCell'=true:=by rw [e0];simp [Value.oneCell']
 have fin:∀ (w':World) (cp:Nat),Sat w0 w' (pts g (off+(l.length-1)) (Builtin.zeroCells (Value.int .i64 0).cells 1).toList*(pts g off ((l.eraseIdx k).map (Value.int .i64))*pts g (off+(l.length-1)+[Value.int .i64 (l.getD (l.length-1) 0)].length) sp*F)) →
   l.length≤cp→cp≤maxLen→sp.length=cp-l.length→Sat w0 w' (z5 .i64 (.slice (some ⟨g,off,none⟩) (l.length-1) cp) (l.eraseIdx k)*F):=fun w' cp h h1 h2 h3=>by
  rw [e0] at h;have e1:pts g off ((l.eraseIdx k).map (Value.int .i64)++([Value.int .i64 0]++sp))=pts g off ((l.eraseIdx k).map (Value.int .i64))*(pts g (off+(l.length-1)) [Value.int .i64 0]*pts g (off+(l.length-1)+1) sp):=by
   rw [zd,zd,hle];rfl
  have h4:Sat w0 w' (pts g off ((l.eraseIdx k).map (Value.int .i64)++([Value.int .i64 0]++sp))*F):=by
   rw [e1];exact h.perm (by simp only [List.length_singleton];ac_rfl)
  have hll:(l.eraseIdx k).length=l.length-1:=by simp [List.length_eraseIdx,hk]
  unfold z5;rw [hll];exact Sat.slice_in h4 (by omega) h2 (by simp [hll]) (by simp;omega)
 by_cases hne:cap=k+1
 ·subst hne;have hl1:l.length-(k+1)=0:=by omega
  have hnil:(l.drop (k+1)).map (Value.int .i64)=[]:=by rw [List.drop_eq_nil_of_le (by omega)];rfl
  rw [hnil] at hs5
  go_enter Tryz.func134,Tryz.ntmps134
  go_wp2_with fail
  go_still_tail 6,(by kernel_rfl)
  change wpList _ _ _ _ _ w.drew
  refine z0M (by rfl) (.tmp 22) (.tmp 25) (by rfl) z5h g off k (k+1) (by rfl) _ 0 _ [] (by rfl) rfl (fun j u h=>by cases h) (fun u h=>by cases h) (by omega) (fun j h=>absurd h (Nat.not_lt_zero _)) ?_;rw [show k+0=l.length-1 by omega,Nat.mul_one];generalize w.drew.setCells g (off+k) []=w1 at hs5 ⊢;clear hsp' hnews hnews2 hs1 hs' hs;go_wp2_with (refine z2D (o:=⟨none,_,_,_,_,_⟩) (by rfl) (.tmp 31) (by rfl) z5h (b:=g) (off:=off+(l.length-1)) (n:=1) (cap:=k+1-(l.length-1)) (by rfl) (by decide) hs5 rfl hone ?_);intro w' hs';go_wp2;go_ret;exact ⟨_,rfl,fin _ _ hs' (by omega) (by unfold maxLen;omega) (by omega)⟩
 ·go_enter Tryz.func134,Tryz.ntmps134
  go_wp2_with fail
  go_still_tail 6,(by kernel_rfl)
  change wpList _ _ _ _ _ w.drew
  refine z0M (by rfl) (.tmp 22) (.tmp 25) (by rfl) z5h g off k cap (by rfl) _ (l.length-(k+1)) _ ((l.drop (k+1)).map (Value.int .i64)) (by rfl) hlt hnews (z1R _) (by omega) hsp' ?_;rw [hq,Nat.mul_one];generalize w.drew.setCells g (off+k) ((l.drop (k+1)).map (Value.int .i64))=w1 at hs5 ⊢;clear hsp' hnews hnews2 hs1 hs' hs;go_wp2_with (refine z2D (o:=⟨none,_,_,_,_,_⟩) (by rfl) (.tmp 31) (by rfl) z5h (b:=g) (off:=off+(l.length-1)) (n:=1) (cap:=cap-(l.length-1)) (by rfl) (by decide) hs5 rfl hone ?_);intro w' hs';go_wp2;go_ret;exact ⟨_,rfl,fin _ _ hs' (by omega) (by unfold maxLen;omega) (by omega)⟩
end Go.Proofs.YtgiiidminlhbpaaGreatDoor
namespace Go.Proofs.YtgiiidminlhbpaaGreatDoor
open Go.RowKit Go.Sx Go.Dl
instance:zjz Tryz.prog 24 .i64 3 8 (.int .i64 0):=⟨z5h,by decide⟩
def zO (S:List Ck):List Bool:=(List.range 256).map fun i:Nat=>decide (has S (i:Int))
theorem z48 (S:List Ck):(zO S).length=256:=by simp [zO]
theorem z9B (S:List Ck) {m:Nat} (h:m<256):(zO S).getD m false=decide (has S (m:Int)):=by
 simp [zO,List.getD,h]
theorem z9C {S T:List Ck} {m:Nat} (v:Bool) (h1:decide (has T (m:Int))=v) (h2:∀ i:Nat,i≠m→(has T (i:Int)↔has S (i:Int))):(zO S).set m v=zO T:=by
 refine List.ext_getElem (by simp [z48]) fun i hi1 hi2=>?_;rw [List.getElem_set]
 by_cases e:m=i
 ·subst e;rw [if_pos rfl];simp [zO,← h1]
 ·rw [if_neg e];simp [zO,h2 i (Ne.symm e)]
theorem zbz {S:List Ck} {id t x:Int}:has (z41 (id,t) S) x↔x=id∨has S x:=by
 have h:=((z4I (id,t) S).map Prod.fst).mem_iff (a:=x)
 simpa [has] using h
theorem z8T {S:List Ck} {id x:Int}:has (z33 id S) x↔x≠id∧has S x:=by
 unfold has z33;simp only [List.mem_map,List.mem_filter,bne_iff_ne]
 constructor
 ·rintro ⟨y,⟨h1,h2⟩,rfl⟩;exact ⟨h2,y,h1,rfl⟩
 ·rintro ⟨h1,y,h2,rfl⟩;exact ⟨y,⟨h2,h1⟩,rfl⟩
theorem zis {S:List Ck} {m:Nat} (t:Int):(zO S).set m true=zO (z41 ((m:Int),t) S) :=
 z9C true (decide_eq_true (zbz.2 (.inl rfl))) fun i hi=>by rw [zbz];exact ⟨fun h=>h.resolve_left (by omega),.inr⟩
theorem ziq {S:List Ck} {m:Nat}:(zO S).set m false=zO (z33 (m:Int) S) :=
 z9C false (decide_eq_false fun h=>(z8T.1 h).1 rfl) fun i hi=>by rw [z8T];exact ⟨fun h=>h.2,fun h=>⟨by omega,h⟩⟩
def z21 (b o:Nat) (S:List Ck):HP:=ex fun v=>pts b o [v]*(z7 v (z0H 0 S)*pts b (o+1) ((zO S).map Value.bool))
section
variable {w0 w:World} {P F F1 F2 F3:HP} {b o:Nat} {S D:List Ck} {rs:List Bool} {v:Value}
theorem z2w (hs:Sat w0 w (z21 b o S*F)):∃ a c,Sat w0 w (pts b o [.slice a (z0H 0 S).length c]*(z7 (.slice a (z0H 0 S).length c) (z0H 0 S)*(pts b (o+1) ((zO S).map Value.bool)*F))):=by
 obtain ⟨v,hs⟩:=hs.ex_out;obtain ⟨a,c,rfl⟩:=(hs.pull (Q:=z7 v (z0H 0 S))).recs_form;exact ⟨a,c,hs.perm (by ac_rfl)⟩
theorem z1W (hs:Sat w0 w P) [h0:z64 P b o [v] F1] [h1:z35 F1 z5i v D F2] [h2:z64 F2 b (o+1) (rs.map Value.bool) F3] [h3:Frm F3 F] (hD:D=z0H 0 S) (hr:rs=zO S):Sat w0 w (z21 b o S*F):=by
 subst hD;subst hr;have h6:Sat w0 w ((pts b o [v]*(z7 v (z0H 0 S)*pts b (o+1) ((zO S).map Value.bool)))*F3):=hs.perm (by rw [h0.eq,h1.eq,h2.eq];ac_rfl);exact Sat.ex_in (f:=fun v=>pts b o [v]*(z7 v (z0H 0 S)*pts b (o+1) ((zO S).map Value.bool))) v (h3.out h6)
end
def zc7 (S:List Ck) (id t:Int):Prop:=0≤id∧id<256∧1≤t∧t<4294967296∧¬ has S id
instance (S:List Ck) (id t:Int):Decidable (zc7 S id t):=by unfold zc7;infer_instance
def znD (S:List Ck) (id t:Int):Int:=if zc7 S id t then 0 else 1
def z5B (S:List Ck) (id t:Int):List Ck:=if zc7 S id t then z41 (id,t) S else S
theorem z9G {S:List Ck} (h:SOk S) (id t:Int):SOk (z5B S id t):=by
 unfold z5B
 split
 ·rename_i hp
  exact zla h ⟨hp.1,hp.2.1⟩ ⟨hp.2.2.1,hp.2.2.2.1⟩ hp.2.2.2.2
 ·exact h
theorem z5I {S:List Ck} (h:SOk S):S.length≤256:=by
 have h1:((S.map Prod.fst).map Int.toNat).Nodup:=by
  rw [List.nodup_iff_pairwise_ne,List.pairwise_map];refine h.nd.imp_of_mem ?_;intro a b ha hb hne e;obtain ⟨x,hx,rfl⟩:=List.mem_map.1 ha;obtain ⟨y,hy,rfl⟩:=List.mem_map.1 hb;have:=h.id x hx;have:=h.id y hy;omega
 have h2:((S.map Prod.fst).map Int.toNat) ⊆ List.range 256:=by
  intro z hz;obtain ⟨t,ht,rfl⟩:=List.mem_map.1 hz;obtain ⟨x,hx,rfl⟩:=List.mem_map.1 ht;have:=h.id x hx;rw [List.mem_range];omega
 simpa using z4N _ _ h1 h2
theorem z5A {S:List Ck} (h:SOk S) (k:Nat) (hk:k≤S.length):0≤pre S k:=by
 unfold pre
 split
 ·exact Int.le_refl _
 ·have hlt:k-1<S.length:=by omega
  have:=(h.lf S[k-1] (List.getElem_mem hlt)).1;simp only [List.getD,List.getElem?_eq_getElem hlt,Option.getD_some];omega
theorem zmq {S:List Ck} {t:Int} (ht:1≤t) {k:Nat} (hk:k≤S.length) (h:∀ x∈S.take k,x.2≤t):pre S k≤t:=by
 unfold pre
 split
 ·omega
 ·have hlt:k-1<S.length:=by omega
  simp only [List.getD,List.getElem?_eq_getElem hlt,Option.getD_some];refine h _ ?_;rw [List.mem_take_iff_getElem];exact ⟨k-1,by omega,rfl⟩
theorem zlc {S:List Ck} {t:Int} {k:Nat} (hk:k<S.length) (h:∀ x∈S.take k,x.2≤t) (hq:(S.getD k (0,0)).2≤t):∀ x∈S.take (k+1),x.2≤t:=by
 intro x hx;rw [List.take_succ_eq_append_getElem hk,List.mem_append] at hx
 rcases hx with hx | hx
 ·exact h x hx
 ·obtain rfl:x=S[k]:=by simpa using hx
  simpa [List.getD,hk] using hq
theorem zb6 {α:Type} (D:List α) (k:Nat) (y:α) (hk:k<D.length):(D.set k y).take k=D.take k∧(D.set k y).drop k=y::D.drop (k+1):=by
 constructor
 ·rw [List.take_set_of_le (Nat.le_refl _)]
 ·rw [List.drop_eq_getElem_cons (by simpa using hk),List.getElem_set_self,List.drop_set_of_lt (by omega)]
theorem zeP (b o:Nat) (S:List Ck) (id t:Int) (w0 w:World) (F:HP) (hs:Sat w0 w (z21 b o S*F)) (hno:¬ zc7 S id t) :
  Calls Tryz.prog 42 #[.pointer (some ⟨b,o,none⟩),.int .i64 id,.int .i64 t] w (zp w0 (.int .i64 1) (z21 b o S*F)):=by
 have hs0:=hs;obtain ⟨a,c,hs⟩:=z2w hs
 by_cases h1:id<0
 ·go_enter Tryz.func42,Tryz.ntmps42
  go_wp2_with fail;go_ret;exact ⟨rfl,hs0⟩
 ·by_cases h2:256≤id
  ·go_enter Tryz.func42,Tryz.ntmps42
   go_wp2_with fail;go_ret;exact ⟨rfl,hs0⟩
  ·by_cases h3:t<1
   ·go_enter Tryz.func42,Tryz.ntmps42
    go_wp2_with fail;go_ret;exact ⟨rfl,hs0⟩
   ·by_cases h4:4294967296≤t
    ·go_enter Tryz.func42,Tryz.ntmps42
     go_wp2_with fail;go_ret;exact ⟨rfl,hs0⟩
    ·have hh:has S id:=Decidable.byContradiction fun h=>hno ⟨by omega,by omega,by omega,by omega,h⟩;obtain ⟨m,rfl⟩:=Int.eq_ofNat_of_zero_le (show 0≤id by omega);have hm:m<256:=by omega
     have d256:decide (m<256)=true:=by simp [hm]
     haveI:Lt m (zO S).length:=⟨by rw [z48];exact hm⟩;haveI:zC (pts b (o+1) ((zO S).map Value.bool)) b (o+1+m) (.bool true):=by
      have:=zC.bln b (o+1) m (zO S)
      rwa [z9B S hm,decide_eq_true hh] at this
     clear hh hno
     go_enter Tryz.func42,Tryz.ntmps42
     go_wp2_with fail;go_ret;exact ⟨rfl,hs0⟩
theorem zdD (b o:Nat) (S:List Ck) (id t:Int) (w0 w:World) (F:HP) (hs:Sat w0 w (z21 b o S*F)) (hok:SOk S) (hp:zc7 S id t) :
  Calls Tryz.prog 42 #[.pointer (some ⟨b,o,none⟩),.int .i64 id,.int .i64 t] w (zp w0 (.int .i64 0) (z21 b o (z41 (id,t) S)*F)):=by
 have hl:=z5I hok;have hdl:=z1o 0 S;obtain ⟨p1,p2,p3,p4,p5⟩:=hp;obtain ⟨m,rfl⟩:=Int.eq_ofNat_of_zero_le p1;have hm:m<256:=by omega
 have d256:decide (m<256)=true:=by simp [hm]
 obtain ⟨a,c,hs⟩:=z2w hs;haveI:Lt m (zO S).length:=⟨by rw [z48];exact hm⟩;haveI:zC (pts b (o+1) ((zO S).map Value.bool)) b (o+1+m) (.bool false):=by
  have:=zC.bln b (o+1) m (zO S)
  rwa [z9B S hm,decide_eq_false p5] at this
 have Hrow:=hid (fun k hk h1 h2=>(zkT S (m:Int) t k hk h1 h2).2);have Hend:=hid (fun h1=>(zkS S (m:Int) t h1).2);have Hruns:=hid (zis (S:=S) (m:=m) t);have Hget:=hid (fun k hk=>z6j S k hk);generalize hD:z0H 0 S=D at *;have HD:=hid hD;have hnz:=hid (fun k hk=>z5A hok k hk);have hlf:=hid hok.lf;clear hok p5 hD;rw [hdl] at hs;have Hdl:=hid hdl;have hDl:D.length≤256:=by omega
 clear hdl
 go_enter Tryz.func42,Tryz.ntmps42
 go_wp2_with fail
 go_loop [2,7] (fun tv iv=>∃ k:Nat,k≤S.length∧iv=.int .i64 k∧tv=.int .i64 (t-pre S k)∧∀ x∈S.take k,x.2≤t) (fun _ i=>S.length-(intOf i).toNat)
 case atStart=>exact ⟨0,Nat.zero_le _,rfl,by simp [pre],by simp⟩
 case round =>
  obtain ⟨k,hk,rfl,rfl,hall⟩:=hrel;have q1:=hnz.out k hk;have q2:=zmq p3 hk hall;have Hall:=hid hall;clear hall
  by_cases hlt:k<S.length
  ·obtain ⟨g,off,rfl⟩:∃ g off,a=some ⟨g,off,none⟩:=by
    rcases (hs.pull (Q:=z7 (.slice a S.length c) D)).slice_out with ⟨e,_⟩ | ⟨g,off,cap,sp,e,_⟩
    ·simp only [Value.slice.injEq] at e;omega
    ·simp only [Value.slice.injEq] at e;exact ⟨g,off,e.1⟩
   have hg:=Hget.out k hlt;have hq:=hlf.out (S.getD k (0,0)) (by simp [List.getD,hlt]);have Hps:=hid (z4R S k);have Hq:=hid hq;have htl:=hid (fun hle=>zlc hlt Hall.out hle);have hrow:=hid (fun hge=>Hrow.out k hlt Hall.out hge);generalize S.getD k (0,0)=y at *;obtain ⟨yi,q⟩:=y;haveI:Lt k D.length:=⟨by have:=Hdl.out;omega⟩;have hkd:decide (k<S.length)=true:=by simp [hlt]
   haveI e1:z1v (D.getD k (0,0)) 1 (.int .i64 (q-pre S k)):=⟨by rw [hg];rfl⟩;haveI e0:z1v (D.getD k (0,0)) 0 (.int .i64 yi):=⟨by rw [hg];rfl⟩;have hq1:=Hq.out.1;have hq2:=Hq.out.2;dsimp only at hq1 hq2;have Hg:=hid hg;clear hg hq;generalize hpp:pre S k=p at *;have Hpp:=hid hpp;clear hpp
   by_cases hle:q≤t
   ·have hdd:decide (q-p≤t-p)=true:=by rw [decide_eq_true_iff];omega
    have hsub:t-p-(q-p)=t-q:=by omega
    have Hsub:=hid hsub;clear hsub;go_wp2_with fail
    go_round
    case rel=>exact ⟨k+1,by omega,by go_num,by rw [Hps.out,← Hsub.out],htl.out hle⟩
    case measure=>simp [intOf];omega
   ·have hdd:decide (q-p≤t-p)=false:=by rw [decide_eq_false_iff_not];omega
    have hrw:=hid (hrow (by omega));have hk256:k≤256:=by omega
    clear hrow htl Hps hkd;have Hl1:∀ y',(D.set k y').length≤256:=fun y'=>by rw [List.length_set];exact hDl
    have Hl2:∀ y',k≤(D.set k y').length:=fun y'=>by rw [List.length_set];have:=Hdl.out;omega
    have hkD:k<D.length:=by have:=Hdl.out;omega
    have hkd2:decide (k<S.length)=true:=by simp [hlt]
    go_wp2_with fail;refine (z5Z _ (D.set k ((D.getD k (0,0)).1,q-p-(t-p))) k _ (m:Int) (t-p) w0 _ _ zea zdt (Hl2 _) (Hl1 _)).mono ?_;rintro e w2 ⟨v2,rfl,hs2⟩;generalize hL:List.take k (D.set k ((D.getD k (0,0)).1,q-p-(t-p)))++((m:Int),t-p)::List.drop k (D.set k ((D.getD k (0,0)).1,q-p-(t-p)))=L at hs2;have HL:=hid hL;clear hL Hl1 Hl2;obtain ⟨a5,c5,rfl⟩:=hs2.recs_form;go_wp2_with fail;go_ret;refine ⟨rfl,z1W z6 ?_ Hruns.out⟩;have hss:=zb6 D k ((D.getD k (0,0)).1,q-p-(t-p)) hkD;have h1:=hrw.out;rw [← HL.out,hss.1,hss.2,Hg.out];rw [h1]
    congr 3
    show ((yi,q-p-(t-p)):Ck)=(yi,q-t)
    congr 1
    omega
  ·have hke:k=S.length:=by omega
   subst hke;have hkd:decide (S.length<S.length)=false:=by simp
   have hall:=Hall.out;rw [List.take_length] at hall;have hrw:=hid (Hend.out hall);have Hl2:S.length≤D.length:=by have:=Hdl.out;omega
   clear hall;generalize hpp:pre S S.length=p at *;have Hpp:=hid hpp;clear hpp;go_wp2_with fail;refine (z5Z _ D S.length _ (m:Int) (t-p) w0 _ _ zea zdt Hl2 hDl).mono ?_;rintro e w2 ⟨v2,rfl,hs2⟩;generalize hL:List.take S.length D++((m:Int),t-p)::List.drop S.length D=L at hs2;have HL:=hid hL;clear hL;obtain ⟨a5,c5,rfl⟩:=hs2.recs_form;go_wp2_with fail;go_ret;refine ⟨rfl,z1W z6 ?_ Hruns.out⟩;have h1:=hrw.out;rw [← HL.out,h1,← Hdl.out,List.take_length,List.drop_length]
end Go.Proofs.YtgiiidminlhbpaaGreatDoor
