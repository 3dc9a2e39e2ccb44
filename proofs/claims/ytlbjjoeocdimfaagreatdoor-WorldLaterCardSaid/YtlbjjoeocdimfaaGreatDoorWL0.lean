/-
  Parts of the proof: Open Auto Ints LockO CfOpen ScOpen KernDv WorldQ WorldR SameA Same13.
-/
import Derived.Test.YtlbjjoeocdimfaaGreatDoorRows
import Derived.ProofKit
import Derived.OpenShut
import Derived.ShutString
import Derived.ChangeOld
import Derived.Below
import Derived.Deep.Slices
import Derived.Deep.QuietTactic
import Derived.Test.YtlbjjoeocdimfaaGreatDoorKD0
import Derived.Test.YtlbjjoeocdimfaaGreatDoorKD2
import Derived.Test.YtlbjjoeocdimfaaGreatDoorKD3
import Derived.Test.YtlbjjoeocdimfaaGreatDoorKD5
import Derived.Test.YtlbjjoeocdimfaaGreatDoorKD7
import Derived.Test.YtlbjjoeocdimfaaGreatDoorKD8
import Derived.Test.YtlbjjoeocdimfaaGreatDoorKD9
import Derived.Test.YtlbjjoeocdimfaaGreatDoorKD12
import Derived.Test.YtlbjjoeocdimfaaGreatDoorKD14
set_option linter.unusedVariables false
set_option linter.unusedSimpArgs false
set_option maxHeartbeats 32000000
set_option maxRecDepth 100000
namespace Go.Proofs.YtlbjjoeocdimfaaGreatDoor
open Go.RowKit Go.Sx Go.ChangeShapes Go.WideShapes Go.ChangeAt
open Go.ChangeMaps (open_string shut_string)
theorem z7f:laidOutB Tryz.prog=true:=by kernel_rfl
theorem z6F {w:World} {a:Addr} {u:Value} (h:w.cell? (a.add 0)=some u):∃ b off,a=⟨b,off,none⟩:=by
 have h:w.cell? a=some u:=by simpa [Addr.add] using h
 obtain ⟨b,off,s⟩:=a
 cases s with
 | none=>exact ⟨b,off,rfl⟩
 | some s =>
  unfold World.cell? at h
  split at h
  ·simp at h
  ·cases h
theorem z7t {κ:IntKind} {w:World} {a:Addr} {len cap:Nat} {zs:List Int} (hl:len≤cap) (hm:cap≤maxLen) (hz:zs.length=cap) (hc:∀ i,i<zs.length→w.cell? (a.add i)=some (.int κ (zs.getD i 0))) :
  RdN κ w (.slice (some a) len cap) (zs.take len):=by
 have hlen:(zs.take len).length=len:=by simp;omega
 by_cases h0:len=0
 ·subst h0;exact ⟨some a,cap,0,0,by simp,by simp,hm,fun h=>absurd (by simp) h,fun j hj=>absurd hj (by simp)⟩
 ·obtain ⟨b,off,rfl⟩:=z6F (hc 0 (by omega));refine ⟨_,cap,b,off,by rw [hlen],by omega,hm,fun _=>rfl,fun j hj=>?_⟩;have:=hc j (by omega);rw [Addr.add_lit] at this;rw [this]
  congr 2
  rw [hlen] at hj;simp [List.getD,hj]
section
variable {H:Type} {enc:TypeId×Value→H} {P:Program} {W:World} {base:Nat}
theorem zkN {t e:TypeId} {κ:IntKind} {v:Value} {d:DataW H} {p:List MemPlace} (ht:P.underlying t=some (.slice e)) (he:P.underlying e=some (.int κ)) (hc:P.cellsOf e=1)
  (hok:Value.okWide P W .any base t v) (h:DataW.Trod enc P W 0 (fun _=>true) true t v d p) :
  ∃ l,RdN κ W v l∧(∀ n∈l,(Lit.int κ n).wf=true)∧l.length≤maxLen:=by
 obtain ⟨a,len,cap,rfl⟩:=okWide_slice ht hok;obtain ⟨fuel,hf⟩:=h
 rcases open_ints ht he hc hf with ⟨hcs,_⟩ | ⟨x,l,c,zs,hcs,_,hl,hm,hz,_,hcell,hwz⟩
 ·simp [Value.cells] at hcs;obtain ⟨rfl,rfl,rfl⟩:=hcs;exact ⟨[],⟨none,0,0,0,rfl,Nat.le_refl _,Nat.zero_le _,fun h=>absurd rfl h,fun j hj=>absurd hj (Nat.not_lt_zero _)⟩,fun n hn=>(by cases hn),Nat.zero_le _⟩
 ·simp [Value.cells] at hcs;obtain ⟨rfl,rfl,rfl⟩:=hcs;exact ⟨_,z7t hl hm (by simpa using hz) hcell,fun n hn=>hwz n (List.mem_of_mem_take hn),by simp;omega⟩
theorem z2p {t:TypeId} {v:Value} {d:DataW H} {p:List MemPlace} (h:DataW.Trod enc P W 0 (fun _=>true) true t v d p):∀ x∈p,x.block<W.heap.size:=by
 obtain ⟨m,hm⟩:=h;exact DataW.trod_lt m _ _ _ hm
end
end Go.Proofs.YtlbjjoeocdimfaaGreatDoor
namespace Go.Sx
open Go.RowKit
class znU (w0:World) (κ:IntKind) (v:Value) (l:outParam (List Int)):Prop where
 old:RdN κ w0 v l
instance (priority:=900) Rd.old (w0 w:World) (P:HP) (κ:IntKind) (v:Value) (l:List Int) [h:Sat w0 w P] [c:znU w0 κ v l]:Rd w κ v l:=⟨c.old.later h⟩
theorem RdN.caps {κ:IntKind} {w:World} {ad:Option Addr} {n c:Nat} {l:List Int} (h:RdN κ w (.slice ad n c) l):n=l.length∧n≤c∧c≤maxLen:=by
 obtain ⟨a,cap,b,o,e,h3,h4,_⟩:=h;simp only [Value.slice.injEq] at e;obtain ⟨rfl,rfl,rfl⟩:=e;exact ⟨rfl,h3,h4⟩
section
variable {P:Program} {w:World} {t e bytes:Nat} {z:Value} {κ:IntKind} {l:List Int} {ops:Array Oper} {rest:List Oper} {o:Oper} {a:Act} {Q:Exit→Act→World→Prop} {s lo hi:Operand} {sa:Option Addr} {sn sc:Nat} {i j:Int}
theorem zb8 (E:z1m P t e 1 bytes z):P.underlying t=some (.slice (P.elem t))∧(sizeOf (P.elem t)).run P w=.ok 1 w:=by
 have he:P.elem t=e:=by simp [Program.elem,E.ht]
 obtain ⟨inf,h1,h2,h3,h4⟩:=info_parts E.hi;refine ⟨by rw [he];exact E.ht,?_⟩;rw [he];simp [sizeOf,typeInfo,h1,h3]
end
end Go.Sx
namespace Go.Proofs.YtlbjjoeocdimfaaGreatDoor
open Go.RowKit Go.Sx
theorem z6Y {l m:List Int} (hlen:l.length=m.length) {k:Nat} (hk:k<l.length) (h:l.take k=m.take k) (e:l.getD k 0=m.getD k 0):l.take (k+1)=m.take (k+1):=by
 rw [List.take_succ_eq_append_getElem hk,List.take_succ_eq_append_getElem (by omega),h];have e1:l.getD k 0=l[k]:=by simp [List.getD,hk]
 have e2:m.getD k 0=m[k]:=by simp [List.getD,show k<m.length by omega]
 rw [← e1,← e2,e]
theorem zo0 (v u:Value) (l m:List Int) (w:World) (h:RdN .i64 w v l) (hm:RdN .i64 w u m) :
  Calls Tryz.prog 68 #[v,u] w (z9P (.bool (decide (l=m))) w):=by
 obtain ⟨a,cap,b,off,rfl,hcap,hbig,ha,hc⟩:=h;obtain ⟨la,lcap,lb,loff,rfl,hlcap,hlbig,hla,hlc⟩:=hm;unfold maxLen at hbig hlbig
 by_cases hlen:l.length=m.length
 ·have hb:((l.length:Int) != (m.length:Int))=false:=by simp [hlen]
  have hlen':=hid hlen;clear hlen
  go_enter Tryz.func68,Tryz.ntmps68
  go_wp2_with fail
  go_loopw [5] (fun i wr=>∃ k n:Nat,k≤l.length∧i=.int .i64 k∧l.take k=m.take k∧wr=w.drewN n) (fun i _=>l.length-(intOf i).toNat)
  case atStart=>exact ⟨0,0,Nat.zero_le _,rfl,rfl,rfl⟩
  case round =>
   obtain ⟨k,n,hk,rfl,heq,rfl⟩:=hrel;have heq:=hid heq
   by_cases hlt:k<l.length
   ·have hlt2:k<m.length:=by have:=hlen'.out;omega
    obtain rfl:=ha (by intro h;simp [h] at hlt);obtain rfl:=hla (by intro h;simp [h] at hlt2);have c1:=hc k hlt;have c2:=hlc k hlt2;have hnext:=hid (fun e=>z6Y hlen'.out hlt heq.out e);have hne:Hid (l.getD k 0≠m.getD k 0→l≠m):=fun h e=>h (by rw [e]);generalize l.getD k 0=x at c1 hnext hne;generalize m.getD k 0=y at c2 hnext hne;clear hc hlc ha hla
    by_cases hxy:x=y
    ·have hb2:(x != y)=false:=by simp [hxy]
     have hxy:=hid hxy;go_wp2_with fail;go_quiet (fail);go_wp2;go_roundw
     case rel=>exact ⟨k+1,_,by omega,by go_num,hnext.out hxy.out,rfl⟩
     case measure=>simp [intOf];omega
    ·have hb2:(x != y)=true:=by simp [hxy]
     have hd:decide (l=m)=false:=decide_eq_false (hne.out hxy);go_wp2_with fail;go_quiet (fail);go_wp2;go_ret;exact ⟨by rw [hd];rfl,n+nq,by simp⟩
   ·have hd:decide (l=m)=true:=decide_eq_true (by have h1:=heq.out;rw [List.take_of_length_le (by omega),List.take_of_length_le (by have:=hlen'.out;omega)] at h1;exact h1);clear hc hlc ha hla;go_wp2_with fail;go_ret;exact ⟨by rw [hd];rfl,_,rfl⟩
 ·have hb:((l.length:Int) != (m.length:Int))=true:=by simp;omega
  have hd:decide (l=m)=false:=decide_eq_false (fun e=>hlen (by rw [e]));clear hc hlc ha hla
  go_enter Tryz.func68,Tryz.ntmps68
  go_wp2_with fail;go_ret;exact ⟨by rw [hd];rfl,0,rfl⟩
theorem zm2 (v u:Value) (l m:List Int) (w0 w:World) (P:HP) (hs:Sat w0 w P) (h:RdN .i64 w v l) (hm:RdN .i64 w u m) :
  Calls Tryz.prog 68 #[v,u] w (zp w0 (.bool (decide (l=m))) P) :=
 (zo0 v u l m w h hm).mono (by rintro e w' ⟨rfl,n,rfl⟩;exact ⟨rfl,hs.drewN n⟩)
end Go.Proofs.YtlbjjoeocdimfaaGreatDoor
namespace Go.Proofs.YtlbjjoeocdimfaaGreatDoor
open Go.RowKit Go.Sx Go.Lk
def s0:Lk:=⟨[5,3,1],[5,3,1],[-1, -1, -1],[255,255],[[],[]]⟩
end Go.Proofs.YtlbjjoeocdimfaaGreatDoor
namespace Go.Proofs.YtlbjjoeocdimfaaGreatDoor
open Go.RowKit Go.Sx Go.Dl Go.Lk Go.Rq Go.Au Go.ChangeShapes Go.WideShapes Go.ChangeAt
set_option linter.constructorNameAsVariable false
theorem zbk {n:Int} (h:(Lit.int .u32 n).wf=true):zG n:=by
 have h1:(decide ((0:Int)≤n) && decide (n≤4294967295))=true:=h;simp only [Bool.and_eq_true,decide_eq_true_eq] at h1;exact ⟨by omega,by omega⟩
theorem ziS {n:Int} (h:(Lit.int .u64 n).wf=true):0≤n∧n<18446744073709551616:=by
 have h1:(decide ((0:Int)≤n) && decide (n≤18446744073709551615))=true:=h;simp only [Bool.and_eq_true,decide_eq_true_eq] at h1;omega
section
variable {H:Type} {enc:TypeId×Value→H} {P:Program} {W:World}
theorem z3X {t:TypeId} {fs:Array Field} {fuel:Nat} {cs:List Value} {x:DataW H×List MemPlace} (ht:P.underlying t=some (.struct fs)) (h:DataW.trod enc P W 0 (fun _=>true) true fuel t cs=some x) :
  cs.length=P.cellsOf t∧∀ (i:Nat) (f:Field),fs[i]?=some f→∃ n y,DataW.trod enc P W 0 (fun _=>true) true n f.type ((cs.drop f.offset).take (P.cellsOf f.type))=some y:=by
 obtain ⟨xs,n,_,_,hl,hx,hf⟩:=DataW.trod_struct ht h;refine ⟨hl,fun i f e=>⟨n,xs[i]'(by have:=(Array.getElem?_eq_some_iff.1 e).1;omega),?_⟩⟩;rw [hf i f e,List.getElem?_eq_getElem]
theorem znK {cs:List Value} {o:Nat} (h:o<cs.length):(cs.drop o).take 1=[cs[o]]:=by
 rw [List.drop_eq_getElem_cons h];rfl
theorem z3A {t:TypeId} {fs:Array Field} {fuel:Nat} {cs:List Value} {x:DataW H×List MemPlace} (ht:P.underlying t=some (.struct fs)) (h:DataW.trod enc P W 0 (fun _=>true) true fuel t cs=some x)
  {T:TypeId} {i o:Nat} (ho:o<P.cellsOf t) (hg:∃ g:Field,fs[i]?=some g∧g.offset=o∧g.type=T∧P.cellsOf T=1):∃ v n y,cs[o]?=some v∧DataW.trod enc P W 0 (fun _=>true) true n T [v]=some y:=by
 obtain ⟨hl,hf⟩:=z3X ht h;obtain ⟨g,h1,rfl,rfl,h4⟩:=hg;obtain ⟨n,y,h5⟩:=hf i g h1;have hlt:g.offset<cs.length:=by omega
 rw [h4,znK hlt] at h5;exact ⟨_,n,y,List.getElem?_eq_getElem hlt,h5⟩
theorem z0C {t:TypeId} {fs:Array Field} {fuel:Nat} {cs:List Value} {x:DataW H×List MemPlace} (ht:P.underlying t=some (.struct fs)) (h:DataW.trod enc P W 0 (fun _=>true) true fuel t cs=some x)
  {T:TypeId} {κ:IntKind} {i o:Nat} (ho:o<P.cellsOf t) (hT:P.underlying T=some (.int κ)) (hg:∃ g:Field,fs[i]?=some g∧g.offset=o∧g.type=T∧P.cellsOf T=1):∃ m:Int,cs[o]?=some (.int κ m)∧(Lit.int κ m).wf=true:=by
 obtain ⟨v,n,y,h1,h2⟩:=z3A ht h ho hg;obtain ⟨m,e,_,hw⟩:=DataW.trod_int hT h2;simp only [List.cons.injEq,and_true] at e;exact ⟨m,by rw [h1,e],hw⟩
theorem z7Q {t e:TypeId} {κ:IntKind} {n:Nat} {cs:List Value} {x:DataW H×List MemPlace} (ht:P.underlying t=some (.slice e)) (he:P.underlying e=some (.int κ)) (hc:P.cellsOf e=1)
  (h:DataW.trod enc P W 0 (fun _=>true) true n t cs=some x):∃ v l,cs=[v]∧RdN κ W v l∧∀ n∈l,(Lit.int κ n).wf=true:=by
 rcases open_ints ht he hc h with ⟨hcs,_⟩ | ⟨x,l,c,zs,hcs,_,hl,hm,hz,_,hcell,hwz⟩
 ·exact ⟨_,[],hcs,⟨none,0,0,0,rfl,Nat.le_refl _,Nat.zero_le _,fun h=>absurd rfl h,fun j hj=>absurd hj (Nat.not_lt_zero _)⟩,fun n hn=>(by cases hn)⟩
 ·exact ⟨_,_,hcs,z7t hl hm (by simpa using hz) hcell,fun n hn=>hwz n (List.mem_of_mem_take hn)⟩
theorem z7R {α:Type} {sz:Nat} [E:Enc α sz] {t e:TypeId} {fuel:Nat} {cs:List Value} {x:DataW H×List MemPlace} (ht:P.underlying t=some (.slice e)) (ce:P.cellsOf e=sz) {G:α→Prop}
  (he:∀ n cs x,DataW.trod enc P W 0 (fun _=>true) true n e cs=some x→∃ a:α,cs=E.enc a∧G a)
  (h:DataW.trod enc P W 0 (fun _=>true) true fuel t cs=some x):∃ v l,cs=[v]∧RdR W v l∧∀ a∈l,G a:=by
 rcases Go.Deep.open_slice ht h with ⟨hcs,_⟩ | ⟨a,len,cap,m,n,D,Pl,hcs,_,hl,hm,hmm,_,hx⟩
 ·exact ⟨_,[],hcs,z5D W,fun a h=>by cases h⟩
 ·simp at hmm;subst hmm;have each:∀ i,i<m→∃ y:α,G y∧∀ c u,(E.enc y)[c]?=some u→W.cell? (a.add (i*sz+c))=some u:=fun i hi=>by
   obtain ⟨cs',h1,h2⟩:=hx i hi;obtain ⟨_,hlen,hcell⟩:=World.cells?_some h1;obtain ⟨y,rfl,hG⟩:=he _ _ _ h2;refine ⟨y,hG,fun c u hu=>?_⟩;have hc:=hcell c (by rw [ce,← E.len y];exact (List.getElem?_eq_some_iff.1 hu).1);rw [Go.Deep.add_add,ce] at hc;rw [hc];exact hu
  haveI:Inhabited α:=⟨E.dft⟩;obtain ⟨f,hf⟩:=Go.Deep.choose_lt each;have hsz:=E.pos;refine ⟨_,(List.range len).map f,hcs,?_,fun y hy=>?_⟩
  ·by_cases h0:0<len
   ·have hpos:0<(E.enc (f 0)).length:=by rw [E.len];exact hsz
    obtain ⟨b,off,rfl⟩:=z6F (by simpa using (hf 0 (by omega)).2 0 _ (List.getElem?_eq_getElem hpos));refine ⟨_,m,b,off,by simp,by simpa using hl,hm,fun _=>rfl,fun j u hj=>?_⟩;have hjl:=(List.getElem?_eq_some_iff.1 hj).1;rw [zJ,List.length_map,List.length_range] at hjl;have e1:j=j / sz*sz+j%sz:=by rw [Nat.mul_comm];exact (Nat.div_add_mod j sz).symm
    have hk:j / sz<len:=(Nat.div_lt_iff_lt_mul hsz).2 hjl;have hc:j%sz<sz:=Nat.mod_lt _ hsz;rw [e1] at hj;rw [z0Y (by simpa using hk) hc] at hj;have hg:((List.range len).map f).getD (j / sz) E.dft=f (j / sz):=by simp [List.getD,hk]
    rw [hg] at hj;have:=(hf (j / sz) (by omega)).2 _ u hj;rw [← e1,Addr.add_lit] at this;exact this
   ·have:len=0:=by omega
    subst this;exact ⟨some a,m,0,0,rfl,by simp,hm,fun h=>absurd (by simp) h,fun j u hj=>by simp [cellsOf] at hj⟩
  ·rw [List.mem_map] at hy;obtain ⟨i,hi,rfl⟩:=hy;exact (hf i (by have:=List.mem_range.1 hi;omega)).1
end
section
variable {H:Type} {enc:TypeId×Value→H} {W:World}
theorem cs6 {cs:List Value} {a b c d e f:Value} (hl:cs.length=6) (h0:cs[0]?=some a) (h1:cs[1]?=some b) (h2:cs[2]?=some c) (h3:cs[3]?=some d) (h4:cs[4]?=some e) (h5:cs[5]?=some f):cs=[a,b,c,d,e,f]:=by
 match cs,hl with
 | [_,_,_,_,_,_],_=>simp_all
theorem cs2 {cs:List Value} {a b:Value} (hl:cs.length=2) (h0:cs[0]?=some a) (h1:cs[1]?=some b):cs=[a,b]:=by
 match cs,hl with
 | [_,_],_=>simp_all
theorem zo5 {cs:List Value} {a b c d e f g h i j k l:Value} (hl:cs.length=12) (h0:cs[0]?=some a) (h1:cs[1]?=some b) (h2:cs[2]?=some c) (h3:cs[3]?=some d) (h4:cs[4]?=some e) (h5:cs[5]?=some f)
  (h6:cs[6]?=some g) (h7:cs[7]?=some h) (h8:cs[8]?=some i) (h9:cs[9]?=some j) (h10:cs[10]?=some k) (h11:cs[11]?=some l):cs=[a,b,c,d,e,f,g,h,i,j,k,l]:=by
 match cs,hl with
 | [_,_,_,_,_,_,_,_,_,_,_,_],_=>simp_all
abbrev Trd (enc:TypeId×Value→H) (W:World) (n:Nat) (t:TypeId) (cs:List Value) (x:DataW H×List MemPlace):Prop:=DataW.trod enc Tryz.prog W 0 (fun _=>true) true n t cs=some x
theorem ziQ (n:Nat) (cs:List Value) (x:DataW H×List MemPlace) (h:Trd enc W n 104 cs x):∃ i:Ins,cs=za3.enc i∧zG i.k:=by
 have hu:=Tryz.underlying104;have hs:Tryz.prog.cellsOf 104=6:=by kernel_rfl
 have hi:Tryz.prog.underlying 3=some (.int .i64):=Tryz.underlying3;have hk:Tryz.prog.underlying 25=some (.int .u32):=Tryz.underlying25;have ci:Tryz.prog.cellsOf 3=1:=by kernel_rfl
 have ck:Tryz.prog.cellsOf 25=1:=by kernel_rfl
 obtain ⟨m0,a0,_⟩:=z0C hu h (i:=0) (o:=0) (by rw [hs];decide) hi ⟨_,rfl,rfl,rfl,ci⟩;obtain ⟨m1,a1,_⟩:=z0C hu h (i:=1) (o:=1) (by rw [hs];decide) hi ⟨_,rfl,rfl,rfl,ci⟩;obtain ⟨m2,a2,_⟩:=z0C hu h (i:=2) (o:=2) (by rw [hs];decide) hi ⟨_,rfl,rfl,rfl,ci⟩;obtain ⟨m3,a3,_⟩:=z0C hu h (i:=3) (o:=3) (by rw [hs];decide) hi ⟨_,rfl,rfl,rfl,ci⟩;obtain ⟨m4,a4,_⟩:=z0C hu h (i:=4) (o:=4) (by rw [hs];decide) hi ⟨_,rfl,rfl,rfl,ci⟩;obtain ⟨m5,a5,w5⟩:=z0C hu h (i:=5) (o:=5) (by rw [hs];decide) hk ⟨_,rfl,rfl,rfl,ck⟩;exact ⟨⟨m0,m1,m2,m3,m4,m5⟩,cs6 ((z3X hu h).1.trans hs) a0 a1 a2 a3 a4 a5,zbk w5⟩
theorem zbh {n:Nat} {v:Value} {x:DataW H×List MemPlace} (h:Trd enc W n 105 [v] x):∃ l:List Ins,RdR W v l∧∀ i∈l,zG i.k:=by
 obtain ⟨v',l,e,hr,hG⟩:=z7R (E:=za3) Tryz.underlying105 (by kernel_rfl) ziQ h;simp only [List.cons.injEq,and_true] at e;subst e;exact ⟨l,hr,hG⟩
theorem zdj {α:Type} {sz:Nat} [E:Enc α sz] {w:World} {v:Value} {l:List α} (h:RdR w v l):∃ a n c,v=.slice a n c:=by
 obtain ⟨a,cap,b,off,e,_⟩:=h;exact ⟨_,_,_,e⟩
theorem zgK (n:Nat) (cs:List Value) (x:DataW H×List MemPlace) (h:Trd enc W n 107 cs x):∃ t:Tv,cs=z8Q.enc t∧∃ l:List Ins,RdR W t.cv l∧∀ i∈l,zG i.k:=by
 have hu:=Tryz.underlying107;have hs:Tryz.prog.cellsOf 107=6:=by kernel_rfl
 have hi:Tryz.prog.underlying 3=some (.int .i64):=Tryz.underlying3;have ci:Tryz.prog.cellsOf 3=1:=by kernel_rfl
 have ck:Tryz.prog.cellsOf 105=1:=by kernel_rfl
 obtain ⟨m0,a0,_⟩:=z0C hu h (i:=0) (o:=0) (by rw [hs];decide) hi ⟨_,rfl,rfl,rfl,ci⟩;obtain ⟨m1,a1,_⟩:=z0C hu h (i:=1) (o:=1) (by rw [hs];decide) hi ⟨_,rfl,rfl,rfl,ci⟩;obtain ⟨m2,a2,_⟩:=z0C hu h (i:=2) (o:=2) (by rw [hs];decide) hi ⟨_,rfl,rfl,rfl,ci⟩;obtain ⟨m3,a3,_⟩:=z0C hu h (i:=3) (o:=3) (by rw [hs];decide) hi ⟨_,rfl,rfl,rfl,ci⟩;obtain ⟨m4,a4,_⟩:=z0C hu h (i:=4) (o:=4) (by rw [hs];decide) hi ⟨_,rfl,rfl,rfl,ci⟩;obtain ⟨v,n',y,a5,h5⟩:=z3A hu h (i:=5) (o:=5) (by rw [hs];decide) ⟨_,rfl,rfl,rfl,ck⟩;obtain ⟨l,hr,hk⟩:=zbh h5;obtain ⟨ca,cn,cc,rfl⟩:=zdj hr;exact ⟨⟨m0,m1,m2,m3,m4,ca,cn,cc⟩,cs6 ((z3X hu h).1.trans hs) a0 a1 a2 a3 a4 a5,l,hr,hk⟩
theorem zgJ (n:Nat) (cs:List Value) (x:DataW H×List MemPlace) (h:Trd enc W n 112 cs x):∃ t:Lv,cs=z8P.enc t∧∃ l:List Ins,RdR W t.cv l∧∀ i∈l,zG i.k:=by
 have hu:=Tryz.underlying112;have hs:Tryz.prog.cellsOf 112=2:=by kernel_rfl
 have hi:Tryz.prog.underlying 3=some (.int .i64):=Tryz.underlying3;have ci:Tryz.prog.cellsOf 3=1:=by kernel_rfl
 have ck:Tryz.prog.cellsOf 105=1:=by kernel_rfl
 obtain ⟨m0,a0,_⟩:=z0C hu h (i:=0) (o:=0) (by rw [hs];decide) hi ⟨_,rfl,rfl,rfl,ci⟩;obtain ⟨v,n',y,a5,h5⟩:=z3A hu h (i:=1) (o:=1) (by rw [hs];decide) ⟨_,rfl,rfl,rfl,ck⟩;obtain ⟨l,hr,hk⟩:=zbh h5;obtain ⟨ca,cn,cc,rfl⟩:=zdj hr;exact ⟨⟨m0,ca,cn,cc⟩,cs2 ((z3X hu h).1.trans hs) a0 a5,l,hr,hk⟩
theorem zhX {l:List Tv} (h:∀ t∈l, ∃ k:List Ins,RdR W t.cv k∧∀ i∈k,zG i.k):∃ ts:List Tc,l.length=ts.length∧∀ t,t<ts.length→IsT W (l.getD t tv0) (ts.getD t tc0)∧∀ i∈(ts.getD t tc0).code,zG i.k:=by
 induction l with
 | nil=>exact ⟨[],rfl,fun t ht=>absurd ht (by simp)⟩
 | cons a l ih =>
  obtain ⟨ts,e,hi⟩:=ih fun t ht=>h t (List.mem_cons_of_mem _ ht);obtain ⟨k,hr,hk⟩:=h a (List.mem_cons_self ..);refine ⟨⟨a.lev,a.off,a.per,a.dl,a.mem,k⟩::ts,by simp [e],fun t ht=>?_⟩
  cases t with
  | zero=>exact ⟨⟨rfl,rfl,rfl,rfl,rfl,hr⟩,hk⟩
  | succ t =>
   have:=hi t (by simpa using ht)
   simpa [List.getD] using this
theorem zhW {l:List Lv} (h:∀ t∈l, ∃ k:List Ins,RdR W t.cv k∧∀ i∈k,zG i.k):∃ ts:List Lc,l.length=ts.length∧∀ t,t<ts.length→IsL W (l.getD t lv0) (ts.getD t lc0)∧∀ i∈(ts.getD t lc0).code,zG i.k:=by
 induction l with
 | nil=>exact ⟨[],rfl,fun t ht=>absurd ht (by simp)⟩
 | cons a l ih =>
  obtain ⟨ts,e,hi⟩:=ih fun t ht=>h t (List.mem_cons_of_mem _ ht);obtain ⟨k,hr,hk⟩:=h a (List.mem_cons_self ..);refine ⟨⟨a.mem,k⟩::ts,by simp [e],fun t ht=>?_⟩
  cases t with
  | zero=>exact ⟨⟨rfl,hr⟩,hk⟩
  | succ t =>
   have:=hi t (by simpa using ht)
   simpa [List.getD] using this
theorem z4q {base:Nat} {v:Value} {d:DataW H} {p:List MemPlace} (hok:Value.okWide Tryz.prog W .any base 28 v) (h:DataW.Trod enc Tryz.prog W 0 (fun _=>true) true 28 v d p) :
  ∃ c:Cf,z8I W v c∧z6B c:=by
 have hu:=Tryz.underlying28;have hs:Tryz.prog.cellsOf 28=12:=by kernel_rfl
 have hi:Tryz.prog.underlying 3=some (.int .i64):=Tryz.underlying3;have hk:Tryz.prog.underlying 25=some (.int .u32):=Tryz.underlying25;have hq:Tryz.prog.underlying 26=some (.int .u64):=Tryz.underlying26;have ci:Tryz.prog.cellsOf 3=1:=by kernel_rfl
 have ck:Tryz.prog.cellsOf 25=1:=by kernel_rfl
 have cq:Tryz.prog.cellsOf 26=1:=by kernel_rfl
 have cn:Tryz.prog.cellsOf 24=1:=by kernel_rfl
 have ct:Tryz.prog.cellsOf 22=1:=by kernel_rfl
 have cl:Tryz.prog.cellsOf 23=1:=by kernel_rfl
 obtain ⟨cs,rfl,hsz⟩:=okWide_struct hu hok;obtain ⟨fuel,h⟩:=h;have h:DataW.trod enc Tryz.prog W 0 (fun _=>true) true fuel 28 cs.toList=some (d,p):=h;obtain ⟨v0,n0,y0,a0,h0⟩:=z3A hu h (i:=0) (o:=0) (by rw [hs];decide) ⟨_,rfl,rfl,rfl,ct⟩;obtain ⟨v1,n1,y1,a1,h1⟩:=z3A hu h (i:=1) (o:=1) (by rw [hs];decide) ⟨_,rfl,rfl,rfl,cl⟩;obtain ⟨m2,a2,_⟩:=z0C hu h (i:=2) (o:=2) (by rw [hs];decide) hi ⟨_,rfl,rfl,rfl,ci⟩;obtain ⟨v3,n3,y3,a3,h3⟩:=z3A hu h (i:=3) (o:=3) (by rw [hs];decide) ⟨_,rfl,rfl,rfl,cn⟩;obtain ⟨v4,n4,y4,a4,h4⟩:=z3A hu h (i:=4) (o:=4) (by rw [hs];decide) ⟨_,rfl,rfl,rfl,cn⟩;obtain ⟨v5,n5,y5,a5,h5⟩:=z3A hu h (i:=5) (o:=5) (by rw [hs];decide) ⟨_,rfl,rfl,rfl,cn⟩;obtain ⟨m6,a6,_⟩:=z0C hu h (i:=6) (o:=6) (by rw [hs];decide) hi ⟨_,rfl,rfl,rfl,ci⟩;obtain ⟨m7,a7,w7⟩:=z0C hu h (i:=7) (o:=7) (by rw [hs];decide) hk ⟨_,rfl,rfl,rfl,ck⟩;obtain ⟨m8,a8,w8⟩:=z0C hu h (i:=8) (o:=8) (by rw [hs];decide) hk ⟨_,rfl,rfl,rfl,ck⟩;obtain ⟨m9,a9,_⟩:=z0C hu h (i:=9) (o:=9) (by rw [hs];decide) hi ⟨_,rfl,rfl,rfl,ci⟩;obtain ⟨m10,a10,w10⟩:=z0C hu h (i:=10) (o:=10) (by rw [hs];decide) hq ⟨_,rfl,rfl,rfl,cq⟩;obtain ⟨m11,a11,w11⟩:=z0C hu h (i:=11) (o:=11) (by rw [hs];decide) hq ⟨_,rfl,rfl,rfl,cq⟩;have hcs:=zo5 ((z3X hu h).1.trans hs) a0 a1 a2 a3 a4 a5 a6 a7 a8 a9 a10 a11;obtain ⟨_,T,e0,hT,hTk⟩:=z7R (E:=z8Q) Tryz.underlying22 (by kernel_rfl) zgK h0;obtain ⟨_,L,e1,hL,hLk⟩:=z7R (E:=z8P) Tryz.underlying23 (by kernel_rfl) zgJ h1;obtain ⟨_,S,e3,hS,_⟩:=z7Q Tryz.underlying24 hi ci h3;obtain ⟨_,Q,e4,hQ,_⟩:=z7Q Tryz.underlying24 hi ci h4;obtain ⟨_,M,e5,hM,_⟩:=z7Q Tryz.underlying24 hi ci h5;simp only [List.cons.injEq,and_true] at e0 e1 e3 e4 e5;subst e0;subst e1;subst e3;subst e4;subst e5;obtain ⟨ts,lt,ht⟩:=zhX hTk;obtain ⟨ls,ll,hl⟩:=zhW hLk;have r7:=zbk w7;have r8:=zbk w8;have g7:((m7.toNat:Nat):Int)=m7:=Int.toNat_of_nonneg r7.1;have g8:((m8.toNat:Nat):Int)=m8:=Int.toNat_of_nonneg r8.1;refine ⟨⟨ts,ls,m2,S,Q,M,m6,m7.toNat,m8.toNat,m9,m10,m11⟩,⟨_,_,_,_,_,?_,⟨T,hT,lt,fun t h=>(ht t h).1⟩,⟨L,hL,ll,fun t h=>(hl t h).1⟩,hS,hQ,hM⟩,⟨fun t h=>(ht t h).2,fun t h=>(hl t h).2,?_,?_,ziS w10,ziS w11⟩⟩
 ·rw [← Array.toArray_toList (xs:=cs),hcs];show Value.agg _=Value.agg _;rw [g7,g8]
 ·have:=r7.2;show m7.toNat<_;omega
 ·have:=r8.2;show m8.toNat<_;omega
end
instance:z63 Tryz.prog 79 Ar 2 zqj 86 16 (.agg #[.int .i64 0,.int .i64 0]):=⟨zry,by decide⟩
section
variable {H:Type} {enc:TypeId×Value→H} {W:World}
theorem cs3 {cs:List Value} {a b c:Value} (hl:cs.length=3) (h0:cs[0]?=some a) (h1:cs[1]?=some b) (h2:cs[2]?=some c):cs=[a,b,c]:=by
 match cs,hl with
 | [_,_,_],_=>simp_all
theorem zrv (n:Nat) (cs:List Value) (x:DataW H×List MemPlace) (h:Trd enc W n 86 cs x):∃ i:Ar,cs=zqj.enc i∧True:=by
 have hu:=Tryz.underlying86;have hs:Tryz.prog.cellsOf 86=2:=by kernel_rfl
 have hi:Tryz.prog.underlying 3=some (.int .i64):=Tryz.underlying3;have ci:Tryz.prog.cellsOf 3=1:=by kernel_rfl
 obtain ⟨m0,a0,_⟩:=z0C hu h (i:=0) (o:=0) (by rw [hs];decide) hi ⟨_,rfl,rfl,rfl,ci⟩;obtain ⟨m1,a1,_⟩:=z0C hu h (i:=1) (o:=1) (by rw [hs];decide) hi ⟨_,rfl,rfl,rfl,ci⟩;exact ⟨⟨m0,m1⟩,cs2 ((z3X hu h).1.trans hs) a0 a1,trivial⟩
theorem zrr {base:Nat} {v:Value} {d:DataW H} {p:List MemPlace} (hok:Value.okWide Tryz.prog W .any base 81 v) (h:DataW.Trod enc Tryz.prog W 0 (fun _=>true) true 81 v d p) :
  ∃ s:Sc,zqQ W v s∧∀ x∈s.tape,zG x:=by
 have hu:=Tryz.underlying81;have hs:Tryz.prog.cellsOf 81=3:=by kernel_rfl
 have hi:Tryz.prog.underlying 3=some (.int .i64):=Tryz.underlying3;have hk:Tryz.prog.underlying 25=some (.int .u32):=Tryz.underlying25;have ci:Tryz.prog.cellsOf 3=1:=by kernel_rfl
 have ck:Tryz.prog.cellsOf 25=1:=by kernel_rfl
 have cn:Tryz.prog.cellsOf 43=1:=by kernel_rfl
 have ct:Tryz.prog.cellsOf 79=1:=by kernel_rfl
 obtain ⟨cs,rfl,hsz⟩:=okWide_struct hu hok;obtain ⟨fuel,h⟩:=h;have h:DataW.trod enc Tryz.prog W 0 (fun _=>true) true fuel 81 cs.toList=some (d,p):=h;obtain ⟨v0,n0,y0,a0,h0⟩:=z3A hu h (i:=0) (o:=0) (by rw [hs];decide) ⟨_,rfl,rfl,rfl,ct⟩;obtain ⟨v1,n1,y1,a1,h1⟩:=z3A hu h (i:=1) (o:=1) (by rw [hs];decide) ⟨_,rfl,rfl,rfl,cn⟩;obtain ⟨m2,a2,_⟩:=z0C hu h (i:=2) (o:=2) (by rw [hs];decide) hi ⟨_,rfl,rfl,rfl,ci⟩;have hcs:=cs3 ((z3X hu h).1.trans hs) a0 a1 a2;obtain ⟨_,A,e0,hA,_⟩:=z7R (E:=zqj) Tryz.underlying79 (by kernel_rfl) zrv h0;obtain ⟨_,T,e1,hT,hW⟩:=z7Q Tryz.underlying43 hk ck h1;simp only [List.cons.injEq,and_true] at e0 e1;subst e0;subst e1;obtain ⟨aa,ac,ab,ao,ea,_⟩:=id hA;obtain ⟨ta,tc,tb,tq,et,_⟩:=id hT;subst ea;subst et;refine ⟨⟨m2,A,T⟩,⟨aa,ac,ta,tc,?_,hA,hT⟩,fun x hx=>zbk (hW x hx)⟩;rw [← Array.toArray_toList (xs:=cs),hcs]
end
end Go.Proofs.YtlbjjoeocdimfaaGreatDoor
namespace Go.Proofs.YtlbjjoeocdimfaaGreatDoor
open Go.RowKit Go.Sx Go.Dl Go.Lk Go.Rq Go.Au
section
variable {c:Cf} {K K1 K2:Kn}
theorem Nd.vf (h:Nd K K1):Vf K K1 K1:=.inl ⟨rfl,h.2⟩
theorem zqN (K:Kn) (c:Cf) (who:Nat) (i:Ins) (v v':Int):Vf K (K.shared c who i v) (K.shared c who i v'):=by
 have r:=Nd.refl K;unfold Kn.shared
 by_cases h:i.op=21
 ·rw [if_pos h,if_pos h];have e:∀ v,((({ K with reads:=(K.reads+1)%18446744073709551616 }:Kn).put who i.a v).tell c 2 i.k who v).reads=(K.reads+1)%18446744073709551616:=fun v=>by
   rw [zer];unfold Kn.put;split<;>rfl
  exact .inr ⟨e v,e v'⟩
 rw [if_neg h,if_neg h];refine Nd.vf ?_
 split
 ·exact r.tell 20 _ _ _ (by decide)
 split
 ·exact r.set rfl rfl
 split
 ·exact r.put _ _ _
 split
 ·exact r.put _ _ _
 split
 ·split
  ·exact r.refuse _ _ _
  split
  ·exact r.refuse _ _ _
  ·exact Nd.put (r.post _ _) _ _ _
 split
 ·split
  ·exact r.refuse _ _ _
  split
  ·exact r.send _ _
  ·exact r.recv _ _
 split
 ·exact r.timer _ _
 ·exact r
theorem zqM (K:Kn) (c:Cf) (t:Nat) (i:Ins) (v v':Int):Vf K (K.serveTask c t i v) (K.serveTask c t i v'):=by
 have r:=Nd.refl K;unfold Kn.serveTask
 split
 ·exact (r.lock _ _).vf
 split
 ·exact (r.unlock _ _).vf
 split
 ·exact (r.await _ _).vf
 split
 ·exact (r.sleep _ _).vf
 split
 ·exact Nd.vf (r.set rfl rfl)
 split
 ·exact (r.next _).vf
 ·exact zqN K c t i v v'
theorem zsc (K:Kn) (c:Cf) (t:Nat) (v v':Int):Vf K (K.go c t v) (K.go c t v'):=by
 have r:=Nd.refl K;unfold Kn.go;dsimp only
 split
 ·split
  ·exact Nd.vf (Nd.putCx (r.cost _) _ _)
  ·exact Nd.vf (Nd.gone (Nd.tell (Nd.putCx (r.cost _) _ _) 21 _ _ _ (by decide)) _ _)
 split
 ·exact Nd.vf (Nd.gone (Nd.tell (Nd.setT (r.cost _) _ _) 22 _ _ _ (by decide)) _ _)
 ·exact Vf.pre (Nd.setT ((Nd.refl K).cost _) _ _) (zqM _ c t _ v v')
theorem zqW (K:Kn) (c:Cf) (v v':Int):Vf K (K.dispatch c v) (K.dispatch c v'):=by
 have r:=Nd.refl K;have r2:∀ t:Int,Nd K (if t=K.run then K else { (K.tell c 5 t K.run 0).cost 10 with run:=t }):=fun t=>by
  split
  ·exact r
  ·exact Nd.set (Nd.cost (r.tell 5 _ _ _ (by decide)) 10) rfl rfl
 unfold Kn.dispatch;dsimp only
 cases z0h K.R with
 | none=>exact Nd.vf (Nd.cost (r2 255) 1)
 | some t=>exact Vf.pre (r2 t) (zsc _ c t v v')
theorem zrw (K:Kn) (c:Cf) (n:Nat) (v v':Int):Vf K (K.serve c n v) (K.serve c n v'):=by
 have r1:Nd K (K.cost (zT (z0j (lcg c n).code K.iat 38))):=(Nd.refl K).cost _;unfold Kn.serve;dsimp only;generalize K.cost (zT (z0j (lcg c n).code K.iat 38))=K1 at r1 ⊢;generalize z0j (lcg c n).code K.iat 38=i
 split
 ·have r2:=r1.putCx (64+n) (doI i (K1.cx (64+n))).2;generalize K1.putCx (64+n) (doI i (K1.cx (64+n))).2=K2 at r2 ⊢
  split
  ·exact r2.vf
  ·have r3:=r2.tell (c:=c) 21 ((64:Int)+n) (doI i (K1.cx (64+n))).1 0 (by decide);generalize K2.tell c 21 ((64:Int)+n) (doI i (K1.cx (64+n))).1 0=K3 at r3 ⊢;have r4:Nd K { K3 with ln:=K3.ln.bar n }:=r3.set rfl rfl;generalize ({ K3 with ln:=K3.ln.bar n }:Kn)=K4 at r4 ⊢;exact Nd.vf (Nd.set (r4.tell (c:=c) 4 n 0 0 (by decide)) rfl rfl)
 split
 ·exact Nd.vf (Nd.set (r1.tell (c:=c) 4 n 0 0 (by decide)) rfl rfl)
 ·exact Vf.pre (K1:={ K1 with iat:=K1.iat+1 }) (r1.set rfl rfl) (zqN _ c _ _ v v')
theorem zrV (K:Kn) (c:Cf) (v v':Int):Vf K (K.act c v) (K.act c v'):=by
 have r:=Nd.refl K;unfold Kn.act
 split
 ·exact r.vf
 split
 ·exact zrw _ _ _ _ _
 split
 ·dsimp only;exact Nd.vf (Nd.set (Nd.cost (Nd.tell (by exact r.set rfl rfl) 3 _ _ _ (by decide)) 6) rfl rfl)
 ·exact zqW _ _ _ _
theorem zrm (K:Kn) (c:Cf) (bits:Nat) (v v':Int) :
  (K.step c bits v=K.step c bits v'∧K.evs c bits v=K.evs c bits v'∧(K.step c bits v).reads=K.reads)∨((K.step c bits v).reads=(K.reads+1)%18446744073709551616∧(K.step c bits v').reads=(K.reads+1)%18446744073709551616):=by
 have h1:Nd K (K.tick c):=(Nd.refl K).tick;have h2:Nd (K.tick c).take ((K.tick c).take.raise c bits):=(Nd.refl _).raise bits;have e3:((K.tick c).take.raise c bits).take.reads=K.reads:=h2.2.trans h1.2
 rcases zrV ((K.tick c).take.raise c bits).take c v v' with ⟨e,f⟩ | ⟨a,b⟩
 ·refine .inl ⟨?_,?_,f.trans e3⟩
  ·unfold Kn.step;rw [e]
  ·unfold Kn.evs;rw [e]
 ·exact .inr ⟨by rw [← e3];exact a,by rw [← e3];exact b⟩
theorem zra (K:Kn) (c:Cf) {b b':Nat} (h:b &&& K.ln.all=b' &&& K.ln.all):K.raise c b=K.raise c b':=by
 unfold Kn.raise
 split
 ·rfl
 ·have e:K.ln.raise b=K.ln.raise b':=by unfold Ln.raise;rw [h]
  rw [e,h]
end
def zqd (t:List Int) (r:Int):Int:=if r<t.length then lg t r.toNat else 0
theorem zr5 (w:Wd):w.val=zqd w.tape w.K.reads:=rfl
def zqk (steps:Int) (nl:Nat) (a:Ar):Bool:=decide (a.step≤steps∧a.line<nl)
theorem zqe.weak {d e:Int} (h:e≤d):∀ {l:List Ar},zqe d l→zqe e l
 | [],_=>trivial
 | a::l,hs=>⟨by have:=hs.1;omega,hs.2⟩
theorem zqx:∀ (l:List Ar) (last:Int),zqq last l=false→zqe last l
 | [],_,_=>trivial
 | a::l,last,h=>by
  unfold zqq at h;simp only [Bool.or_eq_false_iff,decide_eq_false_iff_not] at h;exact ⟨by omega,zqx l a.step h.2⟩
theorem zqI {d:Int} {b:Nat}:∀ {l:List Ar},(∀ x∈l,x.step≠d)→zq7 d b l=(b,l)
 | [],_=>rfl
 | a::l,h=>by unfold zq7;rw [if_neg (h a (List.mem_cons_self ..))]
theorem zrs {n k:Nat} (h:n≤k):2^k &&& (2^n-1)=0:=by
 rw [Nat.and_two_pow_sub_one_eq_mod];exact Nat.mod_eq_zero_of_dvd (Nat.pow_dvd_pow 2 h)
theorem zqr {steps d:Int} {nl:Nat} (hd:d≤steps):∀ (l:List Ar) (b b':Nat),zrx l→zqe d l→b &&& (2^nl-1)=b' &&& (2^nl-1) →
  (zq7 d b (l.filter (zqk steps nl))).1 &&& (2^nl-1)=(zq7 d b' l).1 &&& (2^nl-1)∧(zq7 d b (l.filter (zqk steps nl))).2=(zq7 d b' l).2.filter (zqk steps nl)∧zqe (d+1) (zq7 d b' l).2
 | [],b,b',_,_,h=>⟨h,rfl,trivial⟩
 | a::l,b,b',ho,hs,h=>by
  have ho2:zrx l:=fun x hx=>ho x (List.mem_cons_of_mem _ hx);have ha:=ho a (List.mem_cons_self ..)
  by_cases e:a.step=d
  ·have e1:zq7 d b' (a::l)=zq7 d (b' ||| 2^a.line.toNat) l:=by conv=>lhs;unfold zq7;rw [if_pos e]
   have hs2:zqe d l:=hs.2.weak (by omega)
   by_cases k:zqk steps nl a=true
   ·have e2:(a::l).filter (zqk steps nl)=a::l.filter (zqk steps nl):=by rw [List.filter_cons,if_pos k]
    have e3:zq7 d b (a::l.filter (zqk steps nl))=zq7 d (b ||| 2^a.line.toNat) (l.filter (zqk steps nl)):=by conv=>lhs;unfold zq7;rw [if_pos e]
    rw [e1,e2,e3];exact zqr hd l _ _ ho2 hs2 (by rw [Nat.and_or_distrib_right,Nat.and_or_distrib_right,h])
   ·have e2:(a::l).filter (zqk steps nl)=l.filter (zqk steps nl):=by rw [List.filter_cons,if_neg k]
    have hl:nl≤a.line.toNat:=by
     have:=of_decide_eq_false (Bool.not_eq_true _ ▸ k:zqk steps nl a=false);omega
    rw [e1,e2];exact zqr hd l _ _ ho2 hs2 (by rw [Nat.and_or_distrib_right,zrs hl,Nat.or_zero];exact h)
  ·have hlt:d<a.step:=by have:=hs.1;omega
   have hall:∀ x∈a::l,x.step≠d:=fun x hx=>by
    rcases List.mem_cons.1 hx with rfl | hx
    ·exact e
    ·have:=hs.2.le x hx;omega
   rw [zqI hall,zqI fun x hx=>hall x (List.mem_filter.1 hx).1];exact ⟨h,rfl,by omega,hs.2⟩
structure Lt2 (c:Cf) (R:Int) (w w':Wd):Prop where
 k:w'.K=w.K
 done:w'.done=w.done
 steps:w'.steps=w.steps
 ar:w'.ar=w.ar.filter (zqk w.steps c.ls.length)
 sort:zqe (w.done+1) w.ar
 tape:∀ r,0≤r→r<R→zqd w'.tape r=zqd w.tape r
theorem zr1 (K:Kn) (c:Cf) (b:Nat) (v:Int) (h:0≤K.reads∧K.reads+1<18446744073709551616):(K.step c b v).reads=K.reads∨(K.step c b v).reads=K.reads+1:=by
 rcases zrm K c b v v with ⟨_,_,e⟩ | ⟨e,_⟩
 ·exact .inl e
 ·exact .inr (by rw [e];omega)
theorem zqB {c:Cf}:∀ (n:Nat) {w:Wd},zr8 c w→w.K.reads+n<18446744073709551616→w.K.reads≤(Wd.run c n w).K.reads∧(Wd.run c n w).K.reads≤w.K.reads+n
 | 0,w,h,hr=>⟨Int.le_refl _,by show w.K.reads≤_;omega⟩
 | n+1,w,h,hr=>by
  rw [zq9]
  split
  ·rename_i hd
   have h0:=h.inv.rds;have eone:(w.one c).K=w.K.step c w.bits w.val:=rfl;have hu:=zr1 w.K c w.bits w.val ⟨h0.1,by omega⟩;obtain ⟨a,b⟩:=zqB n (zqu h hd) (by rw [eone];omega);rw [eone] at a b;omega
  ·omega
theorem zrh {c:Cf} {R:Int}:∀ (n:Nat) {w w':Wd},zr8 c w→Lt2 c R w w'→w.K.reads+n<18446744073709551616→(Wd.run c n w).K.reads≤R →
  Lt2 c R (Wd.run c n w) (Wd.run c n w')∧Wd.evs c n w'=Wd.evs c n w
 | 0,w,w',h,l,_,_=>⟨l,rfl⟩
 | n+1,w,w',h,l,hr,hR=>by
  by_cases hd:(w.done:Int)<w.steps
  ·have hd':(w'.done:Int)<w'.steps:=by rw [l.done,l.steps];exact hd
   rw [zq9,if_pos hd] at hR;rw [zq9,zq9,zqa,zqa,if_pos hd,if_pos hd,if_pos hd',if_pos hd'];have h0:=h.inv.rds;have eone:(w.one c).K=w.K.step c w.bits w.val:=rfl;obtain ⟨b1,b2,b3⟩:=zqr (steps:=w.steps) (nl:=c.ls.length) (show (w.done:Int)+1≤w.steps by omega) w.ar 0 0 h.ar l.sort rfl;have hbits:w'.bits &&& (2^c.ls.length-1)=w.bits &&& (2^c.ls.length-1):=by
    show (zq7 (w'.done+1) 0 w'.ar).1 &&& _=_;rw [l.done,l.ar];exact b1
   have hrest:w'.rest=w.rest.filter (zqk w.steps c.ls.length):=by
    show (zq7 (w'.done+1) 0 w'.ar).2=_;rw [l.done,l.ar];exact b2
   have hall:(w.K.tick c).take.ln.all=2^c.ls.length-1:=(z3b (z8Z h.inv)).all;have hra:(w.K.tick c).take.raise c w'.bits=(w.K.tick c).take.raise c w.bits:=zra _ _ (by rw [hall];exact hbits);have hst:∀ v,w.K.step c w'.bits v=w.K.step c w.bits v:=fun v=>by unfold Kn.step;rw [hra]
   have hev:∀ v,w.K.evs c w'.bits v=w.K.evs c w.bits v:=fun v=>by unfold Kn.evs;rw [hra]
   have hmono:=zqB n (zqu h hd);have hval:w.K.step c w.bits w'.val=w.K.step c w.bits w.val∧w.K.evs c w.bits w'.val=w.K.evs c w.bits w.val:=by
    rcases zrm w.K c w.bits w'.val w.val with ⟨e1,e2,_⟩ | ⟨e1,e2⟩
    ·exact ⟨e1,e2⟩
    ·have e3:(w.K.step c w.bits w.val).reads=w.K.reads+1:=by rw [e2];omega
     have hm:=(hmono (by rw [eone,e3];omega)).1;rw [eone,e3] at hm;have ev:w'.val=w.val:=by
      rw [zr5,zr5,l.k];exact l.tape _ h0.1 (by omega)
     rw [ev];exact ⟨rfl,rfl⟩
   have ek:(w'.one c).K=(w.one c).K:=by
    show w'.K.step c w'.bits w'.val=w.K.step c w.bits w.val;rw [l.k,hst,hval.1]
   have l2:Lt2 c R (w.one c) (w'.one c):=⟨ek,by show w'.done+1=w.done+1;rw [l.done],l.steps,hrest,by
    show zqe (((w.done+1:Nat):Int)+1) w.rest;have:(((w.done+1:Nat):Int)+1)=(w.done:Int)+1+1:=by omega
    rw [this];exact b3,l.tape⟩
   have hu:=zr1 w.K c w.bits w.val ⟨h0.1,by omega⟩;obtain ⟨i1,i2⟩:=zrh n (zqu h hd) l2 (by rw [eone];omega) hR;refine ⟨i1,?_⟩;rw [i2,l.k,hev,hval.2]
  ·have hd':¬ (w'.done:Int)<w'.steps:=by rw [l.done,l.steps];exact hd
   rw [zq9,zq9,zqa,zqa,if_neg hd,if_neg hd,if_neg hd',if_neg hd'];exact ⟨l,rfl⟩
theorem z8y {l m:List (List Int)} (hlen:l.length=m.length) {k:Nat} (hk:k<l.length) (h:l.take k=m.take k) (e:l.getD k []=m.getD k []):l.take (k+1)=m.take (k+1):=by
 rw [List.take_succ_eq_append_getElem hk,List.take_succ_eq_append_getElem (by omega),h];have e1:l.getD k []=l[k]:=by simp [List.getD,hk]
 have e2:m.getD k []=m[k]:=by simp [List.getD,show k<m.length by omega]
 rw [← e1,← e2,e]
theorem zmB (v u:Value) (l m:List Int) (w:World) (h:RdN .u32 w v l) (hm:RdN .u32 w u m) :
  Calls Tryz.prog 130 #[v,u] w (z9P (.bool (decide (l=m))) w):=by
 obtain ⟨a,cap,b,off,rfl,hcap,hbig,ha,hc⟩:=h;obtain ⟨la,lcap,lb,loff,rfl,hlcap,hlbig,hla,hlc⟩:=hm;unfold maxLen at hbig hlbig
 by_cases hlen:l.length=m.length
 ·have hb:((l.length:Int) != (m.length:Int))=false:=by simp [hlen]
  have hlen':=hid hlen;clear hlen
  go_enter Tryz.func130,Tryz.ntmps130
  go_wp2_with fail
  go_loopw [5] (fun i wr=>∃ k n:Nat,k≤l.length∧i=.int .i64 k∧l.take k=m.take k∧wr=w.drewN n) (fun i _=>l.length-(intOf i).toNat)
  case atStart=>exact ⟨0,0,Nat.zero_le _,rfl,rfl,rfl⟩
  case round =>
   obtain ⟨k,n,hk,rfl,heq,rfl⟩:=hrel;have heq:=hid heq
   by_cases hlt:k<l.length
   ·have hlt2:k<m.length:=by have:=hlen'.out;omega
    obtain rfl:=ha (by intro h;simp [h] at hlt);obtain rfl:=hla (by intro h;simp [h] at hlt2);have c1:=hc k hlt;have c2:=hlc k hlt2;have hnext:=hid (fun e=>z6Y hlen'.out hlt heq.out e);have hne:Hid (l.getD k 0≠m.getD k 0→l≠m):=fun h e=>h (by rw [e]);generalize l.getD k 0=x at c1 hnext hne;generalize m.getD k 0=y at c2 hnext hne;clear hc hlc ha hla
    by_cases hxy:x=y
    ·have hb2:(x != y)=false:=by simp [hxy]
     have hxy:=hid hxy;go_wp2_with fail;go_quiet (fail);go_wp2;go_roundw
     case rel=>exact ⟨k+1,_,by omega,by go_num,hnext.out hxy.out,rfl⟩
     case measure=>simp [intOf];omega
    ·have hb2:(x != y)=true:=by simp [hxy]
     have hd:decide (l=m)=false:=decide_eq_false (hne.out hxy);go_wp2_with fail;go_quiet (fail);go_wp2;go_ret;exact ⟨by rw [hd];rfl,n+nq,by simp⟩
   ·have hd:decide (l=m)=true:=decide_eq_true (by have h1:=heq.out;rw [List.take_of_length_le (by omega),List.take_of_length_le (by have:=hlen'.out;omega)] at h1;exact h1);clear hc hlc ha hla;go_wp2_with fail;go_ret;exact ⟨by rw [hd];rfl,_,rfl⟩
 ·have hb:((l.length:Int) != (m.length:Int))=true:=by simp;omega
  have hd:decide (l=m)=false:=decide_eq_false (fun e=>hlen (by rw [e]));clear hc hlc ha hla
  go_enter Tryz.func130,Tryz.ntmps130
  go_wp2_with fail;go_ret;exact ⟨by rw [hd];rfl,0,rfl⟩
theorem z7A (v u:Value) (l m:List (List Int)) (w0:World) (h:z8J .i64 w0 v l) (hm:z8J .i64 w0 u m) :
  Calls Tryz.prog 67 #[v,u] w0 (zp w0 (.bool (decide (l=m))) emp):=by
 have hs:=Sat.start w0;obtain ⟨a,cap,b,off,rfl,hbig,ha,hc⟩:=h.form;obtain ⟨la,lcap,lb,loff,rfl,hlbig,hla,hlc⟩:=hm.form;clear h hm;obtain ⟨z,hz⟩:∃ z,z=decide (l=m):=⟨_,rfl⟩;rw [← hz];have Hz:=hid hz;have Hc:=hid hc;have Hlc:=hid hlc;have Ha:=hid ha;have Hla:=hid hla;clear hc hlc ha hla hz
 by_cases hlen:l.length=m.length
 ·have hb:((l.length:Int) != (m.length:Int))=false:=by simp [hlen]
  have hlen':=hid hlen;clear hlen
  go_enter Tryz.func67,Tryz.ntmps67
  go_wp2_with fail;refine z9 (w0:=w0) ?_;intro w1 hs1;clear hs
  go_loopw [5] (fun i wr=>∃ k:Nat,k≤l.length∧i=.int .i64 k∧l.take k=m.take k∧Sat w0 wr any) (fun i _=>l.length-(intOf i).toNat)
  case atStart=>exact ⟨0,Nat.zero_le _,rfl,rfl,z3⟩
  case round =>
   obtain ⟨k,hk,rfl,heq,hsr⟩:=hrel;clear hs1;have heq:=hid heq
   by_cases hlt:k<l.length
   ·have hlt2:k<m.length:=by have:=hlen'.out;omega
    obtain rfl:=Ha.out (by intro h;simp [h] at hlt);obtain rfl:=Hla.out (by intro h;simp [h] at hlt2);obtain ⟨ra,rn,rc,c1,r1⟩:=Hc.out k hlt;obtain ⟨sa,sn,sc,c2,r2⟩:=Hlc.out k hlt2;have d1:decide (k<l.length)=true:=decide_eq_true hlt;have i1:(k:Int)<(l.length:Int):=by omega
    have i2:(k:Int)<(m.length:Int):=by omega
    have hnext:=hid (fun e=>z8y hlen'.out hlt heq.out e);have hne:Hid (l.getD k []≠m.getD k []→l≠m):=fun h e=>h (by rw [e]);generalize l.getD k []=x at r1 hnext hne;generalize m.getD k []=y at r2 hnext hne;have hA:=hid (fun (w:World) (h:Sat w0 w any)=>zo0 _ _ x y w (r1.later h) (r2.later h));haveI o1:Old w0 b (off+k) (.slice ra rn rc):=⟨c1⟩;haveI o2:Old w0 lb (loff+k) (.slice sa sn sc):=⟨c2⟩;clear r1 r2 c1 c2
    by_cases hxy:x=y
    ·have hx:decide (x=y)=true:=decide_eq_true hxy;rw [hx] at hA;have hxy:=hid hxy;clear hx;go_wp2_with fail;go_quiet ((go_at_call 68;exact z2a (hA.out _ z3)));go_wp2_with fail;go_roundw
     case rel=>exact ⟨k+1,by omega,by go_num,hnext.out hxy.out,z3⟩
     case measure=>simp [intOf];omega
    ·have hx:decide (x=y)=false:=decide_eq_false hxy;rw [hx] at hA;have hd:=hid (Hz.out.trans (decide_eq_false (hne.out hxy)));clear hx hxy;go_wp2_with fail;go_quiet ((go_at_call 68;exact z2a (hA.out _ z3)));go_wp2_with fail;go_ret;refine ⟨?_,z3⟩;rw [hd.out];rfl
   ·have hd:=hid (Hz.out.trans (decide_eq_true (by have h1:=heq.out;rw [List.take_of_length_le (by omega),List.take_of_length_le (by have:=hlen'.out;omega)] at h1;exact h1)));have hkn:k=l.length:=by omega
    subst hkn;have d1:decide (l.length<l.length)=false:=by simp
    clear hlt hk;go_wp2_with fail;go_ret;refine ⟨?_,z3⟩;rw [hd.out];rfl
 ·have hb:((l.length:Int) != (m.length:Int))=true:=by simp;omega
  have hd:=hid (Hz.out.trans (decide_eq_false (fun e=>hlen (by rw [e]))))
  go_enter Tryz.func67,Tryz.ntmps67
  go_wp2_with fail;go_ret;refine ⟨?_,z3⟩;rw [hd.out];rfl
theorem zdk (v u:Value) (l m:List (List Int)) (w0:World) (h:z8J .u32 w0 v l) (hm:z8J .u32 w0 u m) :
  Calls Tryz.prog 65 #[v,u] w0 (zp w0 (.bool (decide (l=m))) emp):=by
 have hs:=Sat.start w0;obtain ⟨a,cap,b,off,rfl,hbig,ha,hc⟩:=h.form;obtain ⟨la,lcap,lb,loff,rfl,hlbig,hla,hlc⟩:=hm.form;clear h hm;obtain ⟨z,hz⟩:∃ z,z=decide (l=m):=⟨_,rfl⟩;rw [← hz];have Hz:=hid hz;have Hc:=hid hc;have Hlc:=hid hlc;have Ha:=hid ha;have Hla:=hid hla;clear hc hlc ha hla hz
 by_cases hlen:l.length=m.length
 ·have hb:((l.length:Int) != (m.length:Int))=false:=by simp [hlen]
  have hlen':=hid hlen;clear hlen
  go_enter Tryz.func65,Tryz.ntmps65
  go_wp2_with fail;refine z9 (w0:=w0) ?_;intro w1 hs1;clear hs
  go_loopw [5] (fun i wr=>∃ k:Nat,k≤l.length∧i=.int .i64 k∧l.take k=m.take k∧Sat w0 wr any) (fun i _=>l.length-(intOf i).toNat)
  case atStart=>exact ⟨0,Nat.zero_le _,rfl,rfl,z3⟩
  case round =>
   obtain ⟨k,hk,rfl,heq,hsr⟩:=hrel;clear hs1;have heq:=hid heq
   by_cases hlt:k<l.length
   ·have hlt2:k<m.length:=by have:=hlen'.out;omega
    obtain rfl:=Ha.out (by intro h;simp [h] at hlt);obtain rfl:=Hla.out (by intro h;simp [h] at hlt2);obtain ⟨ra,rn,rc,c1,r1⟩:=Hc.out k hlt;obtain ⟨sa,sn,sc,c2,r2⟩:=Hlc.out k hlt2;have d1:decide (k<l.length)=true:=decide_eq_true hlt;have i1:(k:Int)<(l.length:Int):=by omega
    have i2:(k:Int)<(m.length:Int):=by omega
    have hnext:=hid (fun e=>z8y hlen'.out hlt heq.out e);have hne:Hid (l.getD k []≠m.getD k []→l≠m):=fun h e=>h (by rw [e]);generalize l.getD k []=x at r1 hnext hne;generalize m.getD k []=y at r2 hnext hne;have hA:=hid (fun (w:World) (h:Sat w0 w any)=>zmB _ _ x y w (r1.later h) (r2.later h));haveI o1:Old w0 b (off+k) (.slice ra rn rc):=⟨c1⟩;haveI o2:Old w0 lb (loff+k) (.slice sa sn sc):=⟨c2⟩;clear r1 r2 c1 c2
    by_cases hxy:x=y
    ·have hx:decide (x=y)=true:=decide_eq_true hxy;rw [hx] at hA;have hxy:=hid hxy;clear hx;go_wp2_with fail;go_quiet ((go_at_call 130;exact z2a (hA.out _ z3)));go_wp2_with fail;go_roundw
     case rel=>exact ⟨k+1,by omega,by go_num,hnext.out hxy.out,z3⟩
     case measure=>simp [intOf];omega
    ·have hx:decide (x=y)=false:=decide_eq_false hxy;rw [hx] at hA;have hd:=hid (Hz.out.trans (decide_eq_false (hne.out hxy)));clear hx hxy;go_wp2_with fail;go_quiet ((go_at_call 130;exact z2a (hA.out _ z3)));go_wp2_with fail;go_ret;refine ⟨?_,z3⟩;rw [hd.out];rfl
   ·have hd:=hid (Hz.out.trans (decide_eq_true (by have h1:=heq.out;rw [List.take_of_length_le (by omega),List.take_of_length_le (by have:=hlen'.out;omega)] at h1;exact h1)));have hkn:k=l.length:=by omega
    subst hkn;have d1:decide (l.length<l.length)=false:=by simp
    clear hlt hk;go_wp2_with fail;go_ret;refine ⟨?_,z3⟩;rw [hd.out];rfl
 ·have hb:((l.length:Int) != (m.length:Int))=true:=by simp;omega
  have hd:=hid (Hz.out.trans (decide_eq_false (fun e=>hlen (by rw [e]))))
  go_enter Tryz.func65,Tryz.ntmps65
  go_wp2_with fail;go_ret;refine ⟨?_,z3⟩;rw [hd.out];rfl
theorem zo7 (r s:R8) (w:World):(Op.equalIn 10000 42 (.agg r.cells.toArray) (.agg s.cells.toArray)).run Tryz.prog w=.ok (decide (r=s)) w:=by
 obtain ⟨a0,a1,a2,a3,a4,a5,a6,a7⟩:=r;obtain ⟨b0,b1,b2,b3,b4,b5,b6,b7⟩:=s;simp only [R8.cells,R8.mk.injEq];rw [show (10000:Nat)=9999+1 from rfl,Op.equalIn];simp only [Sem.run_bind,run_underlying Tryz.underlying42,Result.andThen_ok];simp only [Std.Legacy.Range.forIn_eq_forIn_range',Std.Legacy.Range.size,Nat.sub_zero,Nat.add_sub_cancel,Nat.div_one,List.range'_succ,List.range'_zero,List.forIn_cons,List.forIn_nil]
 go_simp
 by_cases h0:a0=b0
 case neg=>simp [h0]
 subst h0
 by_cases h1:a1=b1
 case neg=>simp [h1]
 subst h1
 by_cases h2:a2=b2
 case neg=>simp [h2]
 subst h2
 by_cases h3:a3=b3
 case neg=>simp [h3]
 subst h3
 by_cases h4:a4=b4
 case neg=>simp [h4]
 subst h4
 by_cases h5:a5=b5
 case neg=>simp [h5]
 subst h5
 by_cases h6:a6=b6
 case neg=>simp [h6]
 subst h6
 by_cases h7:a7=b7<;>simp [h7]
theorem zaX (a1 a2:Int) (r1 r2:R8) (v1 v2:Value) (l1 l2:List Int) (w0:World) (h1:RdN .u32 w0 v1 l1) (h2:RdN .u32 w0 v2 l2) :
  Calls Tryz.prog 64 #[.agg (cxL a1 r1 v1).toArray,.agg (cxL a2 r2 v2).toArray] w0 (zp w0 (.bool (decide (a1=a2∧r1=r2∧l1=l2))) emp):=by
 have hs:=Sat.start w0;obtain ⟨a,cap,b,off,rfl,hcap,hbig,ha,hc⟩:=h1;obtain ⟨la,lcap,lb,loff,rfl,hlcap,hlbig,hla,hlc⟩:=h2;unfold maxLen at hbig hlbig;have Ha:=hid ha;have Hc:=hid hc;have Hla:=hid hla;have Hlc:=hid hlc;clear ha hc hla hlc;have hq:=fun w:World=>zo7 r1 r2 w;obtain ⟨x0,x1,x2,x3,x4,x5,x6,x7⟩:=r1;obtain ⟨y0,y1,y2,y3,y4,y5,y6,y7⟩:=r2;simp only [R8.cells] at hq;obtain ⟨z,hz⟩:∃ z,z=decide (a1=a2∧(⟨x0,x1,x2,x3,x4,x5,x6,x7⟩:R8)=⟨y0,y1,y2,y3,y4,y5,y6,y7⟩∧l1=l2):=⟨_,rfl⟩;rw [← hz];have Hz:=hid hz;clear hz;show Calls Tryz.prog 64 #[.agg #[.int .i64 a1,.int .u32 x0,.int .u32 x1,.int .u32 x2,.int .u32 x3,.int .u32 x4,.int .u32 x5,.int .u32 x6,.int .u32 x7,.slice a l1.length cap],.agg #[.int .i64 a2,.int .u32 y0,.int .u32 y1,.int .u32 y2,.int .u32 y3,.int .u32 y4,.int .u32 y5,.int .u32 y6,.int .u32 y7,.slice la l2.length lcap]] w0 _
 by_cases e1:a1=a2
 case neg =>
  have hb:(a1 != a2)=true:=by simp [e1]
  have hd:z=false:=Hz.out.trans (decide_eq_false fun h=>e1 h.1);subst hd;clear e1 hq Hz
  go_enter Tryz.func64,Tryz.ntmps64
  go_wp2_with fail;go_ret;exact ⟨rfl,z3⟩
 subst e1
 by_cases e2:(⟨x0,x1,x2,x3,x4,x5,x6,x7⟩:R8)=⟨y0,y1,y2,y3,y4,y5,y6,y7⟩
 case neg =>
  have hd:z=false:=Hz.out.trans (decide_eq_false fun h=>e2 h.2.1);subst hd;simp only [decide_eq_false e2] at hq;clear e2 Hz
  go_enter Tryz.func64,Tryz.ntmps64
  go_wp2_with fail;go_ret;exact ⟨rfl,z3⟩
 simp only [decide_eq_true e2] at hq
 by_cases e3:l1.length=l2.length
 case neg =>
  have hd:z=false:=Hz.out.trans (decide_eq_false fun h=>e3 (by rw [h.2.2]));subst hd;have hb2:((l1.length:Int) != (l2.length:Int))=true:=by simp;omega
  clear e2 e3 Hz
  go_enter Tryz.func64,Tryz.ntmps64
  go_wp2_with fail;go_ret;exact ⟨rfl,z3⟩
 have hb2:((l1.length:Int) != (l2.length:Int))=false:=by simp [e3]
 have E:=hid (And.intro e2 e3);clear e2 e3
 go_enter Tryz.func64,Tryz.ntmps64
 go_wp2_with fail;refine z9 (w0:=w0) ?_;intro w1 hs1;clear hs
 go_loopw [5] (fun i wr=>∃ k:Nat,k≤l1.length∧i=.int .i64 k∧l1.take k=l2.take k∧Sat w0 wr (pts w0.heap.size 0 [.int .i64 a1,.int .u32 x0,.int .u32 x1,.int .u32 x2,.int .u32 x3,.int .u32 x4,.int .u32 x5,.int .u32 x6,.int .u32 x7,.slice a l1.length cap]*(pts (w0.heap.size+1) 0 [.int .i64 a1,.int .u32 y0,.int .u32 y1,.int .u32 y2,.int .u32 y3,.int .u32 y4,.int .u32 y5,.int .u32 y6,.int .u32 y7,.slice la l2.length lcap]*any))) (fun i _=>l1.length-(intOf i).toNat)
 case atStart=>exact ⟨0,Nat.zero_le _,rfl,rfl,z3⟩
 case round =>
  obtain ⟨k,hk,rfl,heq,hsr⟩:=hrel;clear hs1;have heq:=hid heq
  by_cases hlt:k<l1.length
  ·have hlt2:k<l2.length:=by have:=E.out.2;omega
   obtain rfl:=Ha.out (by intro h;simp [h] at hlt);obtain rfl:=Hla.out (by intro h;simp [h] at hlt2);have c1:=Hc.out k hlt;have c2:=Hlc.out k hlt2;have d1:decide (k<l1.length)=true:=decide_eq_true hlt;have i1:(k:Int)<(l1.length:Int):=by omega
   have i2:(k:Int)<(l2.length:Int):=by omega
   have hnext:=hid (fun e=>z6Y E.out.2 hlt heq.out e);have hne:Hid (l1.getD k 0≠l2.getD k 0→l1≠l2):=fun h e=>h (by rw [e]);generalize l1.getD k 0=x at c1 hnext hne;generalize l2.getD k 0=y at c2 hnext hne;haveI o1:Old w0 b (off+k) (.int .u32 x):=⟨c1⟩;haveI o2:Old w0 lb (loff+k) (.int .u32 y):=⟨c2⟩;clear c1 c2
   by_cases hxy:x=y
   ·have hb3:(x != y)=false:=by simp [hxy]
    have hxy:=hid hxy;go_wp2_with fail;go_quiet (fail);go_wp2_with fail;go_roundw
    case rel=>exact ⟨k+1,by omega,by go_num,hnext.out hxy.out,z3⟩
    case measure=>simp [intOf];omega
   ·have hb3:(x != y)=true:=by simp [hxy]
    have hd:z=false:=Hz.out.trans (decide_eq_false fun h=>hne.out hxy h.2.2);have hd:=hid hd;clear hxy;go_wp2_with fail;go_quiet (fail);go_wp2_with fail;go_ret;refine ⟨?_,z3⟩;rw [hd.out];rfl
  ·have hd:z=true:=Hz.out.trans (decide_eq_true (by
    refine ⟨by first | rfl | trivial,E.out.1,?_⟩;have h1:=heq.out;rw [List.take_of_length_le (by omega),List.take_of_length_le (by have:=E.out.2;omega)] at h1;exact h1))
   have hd:=hid hd;have hkn:k=l1.length:=by omega
   subst hkn;have d1:decide (l1.length<l1.length)=false:=by simp
   clear hlt hk;go_wp2_with fail;go_ret;refine ⟨?_,z3⟩;rw [hd.out];rfl
theorem eqB {z:Bool} {p:Prop} (h:z=true↔p) (n:¬ p):z=false:=by cases z;rfl;exact absurd (h.1 rfl) n
theorem z7B (s t:Ts) (v1 v2:Value) (l1 l2:List Int) (z:Bool) (hz:z=true↔(s=t∧l1=l2)) (w0:World) (h1:RdN .u32 w0 v1 l1) (h2:RdN .u32 w0 v2 l2) :
  Calls Tryz.prog 66 #[.agg (tsL s++cxL s.at_ s.rg v1).toArray,.agg (tsL t++cxL t.at_ t.rg v2).toArray] w0 (zp w0 (.bool z) emp):=by
 have hs:=Sat.start w0;have hA:=hid (fun (w:World) (h:Sat w0 w any)=>zaX s.at_ t.at_ s.rg t.rg v1 v2 l1 l2 w (h1.later h) (h2.later h));obtain ⟨a,cap,b,off,rfl,_,_,_,_⟩:=h1;obtain ⟨la,lcap,lb,loff,rfl,_,_,_,_⟩:=h2;have Hz:=hid hz;clear hz;obtain ⟨x,hx⟩:∃ x,x=decide (s.at_=t.at_∧s.rg=t.rg∧l1=l2):=⟨_,rfl⟩;rw [← hx] at hA;have Hx:=hid hx;clear hx;show Calls Tryz.prog 66 #[.agg #[.int .i64 s.st,.int .i64 s.lev,.int .i64 s.on,.int .i64 s.late,.int .u32 s.job,.int .i64 s.at_,.int .u32 s.rg.r0,.int .u32 s.rg.r1,.int .u32 s.rg.r2,.int .u32 s.rg.r3,.int .u32 s.rg.r4,.int .u32 s.rg.r5,.int .u32 s.rg.r6,.int .u32 s.rg.r7,.slice a l1.length cap],.agg #[.int .i64 t.st,.int .i64 t.lev,.int .i64 t.on,.int .i64 t.late,.int .u32 t.job,.int .i64 t.at_,.int .u32 t.rg.r0,.int .u32 t.rg.r1,.int .u32 t.rg.r2,.int .u32 t.rg.r3,.int .u32 t.rg.r4,.int .u32 t.rg.r5,.int .u32 t.rg.r6,.int .u32 t.rg.r7,.slice la l2.length lcap]] w0 _
 change Hid (∀ w,Sat w0 w any→Calls Tryz.prog 64 #[.agg #[.int .i64 s.at_,.int .u32 s.rg.r0,.int .u32 s.rg.r1,.int .u32 s.rg.r2,.int .u32 s.rg.r3,.int .u32 s.rg.r4,.int .u32 s.rg.r5,.int .u32 s.rg.r6,.int .u32 s.rg.r7,.slice a l1.length cap],.agg #[.int .i64 t.at_,.int .u32 t.rg.r0,.int .u32 t.rg.r1,.int .u32 t.rg.r2,.int .u32 t.rg.r3,.int .u32 t.rg.r4,.int .u32 t.rg.r5,.int .u32 t.rg.r6,.int .u32 t.rg.r7,.slice la l2.length lcap]] w _) at hA
 by_cases e1:s.st=t.st
 case neg =>
  have hb:(s.st==t.st)=false:=by simp [e1]
  have hd:z=false:=eqB Hz.out (fun h=>e1 (by rw [h.1]));subst hd;clear Hz hA
  go_enter Tryz.func66,Tryz.ntmps66
  go_wp2_with fail;go_ret;exact ⟨rfl,z3⟩
 have b1:(s.st==t.st)=true:=by simp [e1]
 by_cases e2:s.lev=t.lev
 case neg =>
  have hb:(s.lev==t.lev)=false:=by simp [e2]
  have hd:z=false:=eqB Hz.out (fun h=>e2 (by rw [h.1]));subst hd;clear Hz hA
  go_enter Tryz.func66,Tryz.ntmps66
  go_wp2_with fail;go_ret;exact ⟨rfl,z3⟩
 have b2:(s.lev==t.lev)=true:=by simp [e2]
 by_cases e3:s.on=t.on
 case neg =>
  have hb:(s.on==t.on)=false:=by simp [e3]
  have hd:z=false:=eqB Hz.out (fun h=>e3 (by rw [h.1]));subst hd;clear Hz hA
  go_enter Tryz.func66,Tryz.ntmps66
  go_wp2_with fail;go_ret;exact ⟨rfl,z3⟩
 have b3:(s.on==t.on)=true:=by simp [e3]
 by_cases e4:s.late=t.late
 case neg =>
  have hb:(s.late==t.late)=false:=by simp [e4]
  have hd:z=false:=eqB Hz.out (fun h=>e4 (by rw [h.1]));subst hd;clear Hz hA
  go_enter Tryz.func66,Tryz.ntmps66
  go_wp2_with fail;go_ret;exact ⟨rfl,z3⟩
 have b4:(s.late==t.late)=true:=by simp [e4]
 by_cases e5:s.job=t.job
 case neg =>
  have hb:(s.job==t.job)=false:=by simp [e5]
  have hd:z=false:=eqB Hz.out (fun h=>e5 (by rw [h.1]));subst hd;clear Hz hA
  go_enter Tryz.func66,Tryz.ntmps66
  go_wp2_with fail;go_ret;exact ⟨rfl,z3⟩
 have b5:(s.job==t.job)=true:=by simp [e5]
 have hd:z=x:=by
  have:(s=t∧l1=l2)↔(s.at_=t.at_∧s.rg=t.rg∧l1=l2):=by
   obtain ⟨st,lev,on,late,job,at_,rg⟩:=s;obtain ⟨st',lev',on',late',job',at_',rg'⟩:=t;simp only [Ts.mk.injEq] at *;subst e1;subst e2;subst e3;subst e4;subst e5;simp [and_assoc]
  have h2:=Hz.out.trans this;rw [Hx.out]
  cases z
  ·exact (decide_eq_false fun h=>by have:=h2.2 h;cases this).symm
  ·exact (decide_eq_true (h2.1 rfl)).symm
 subst hd;clear e1 e2 e3 e4 e5 Hz Hx
 go_enter Tryz.func66,Tryz.ntmps66
 go_wp2_with fail;refine (hA.out _ z3).mono ?_;rintro en w1 ⟨rfl,hs1⟩;have hs2:=Sat.past (w0:=w0) z6 hs1;clear hs1 hs;go_wp2_with fail;go_ret;exact ⟨rfl,z3⟩
end Go.Proofs.YtlbjjoeocdimfaaGreatDoor
