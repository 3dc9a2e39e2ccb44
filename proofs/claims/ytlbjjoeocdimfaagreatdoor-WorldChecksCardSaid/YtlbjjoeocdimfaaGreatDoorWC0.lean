/-
  Parts of the proof: Open LockO CfOpen ScOpen Fine WorldS WorldD WorldA Great WorldH RefI.
-/
import Derived.Test.YtlbjjoeocdimfaaGreatDoorRows
import Derived.ProofKit
import Derived.OpenShut
import Derived.ShutString
import Derived.ChangeOld
import Derived.Below
import Derived.Deep.Slices
import Derived.Test.YtlbjjoeocdimfaaGreatDoorKD0
import Derived.Test.YtlbjjoeocdimfaaGreatDoorKD2
import Derived.Test.YtlbjjoeocdimfaaGreatDoorKD3
import Derived.Test.YtlbjjoeocdimfaaGreatDoorKD4
import Derived.Test.YtlbjjoeocdimfaaGreatDoorKD5
import Derived.Test.YtlbjjoeocdimfaaGreatDoorKD7
import Derived.Test.YtlbjjoeocdimfaaGreatDoorKD8
import Derived.Test.YtlbjjoeocdimfaaGreatDoorKD9
import Derived.Test.YtlbjjoeocdimfaaGreatDoorKD12
import Derived.Test.YtlbjjoeocdimfaaGreatDoorKD13
import Derived.Test.YtlbjjoeocdimfaaGreatDoorKD18
set_option linter.unusedVariables false
set_option linter.unusedSimpArgs false
set_option maxHeartbeats 32000000
set_option maxRecDepth 100000
namespace Go.Proofs.YtlbjjoeocdimfaaGreatDoor
open Go.RowKit Go.Sx Go.ChangeShapes Go.WideShapes Go.ChangeAt
open Go.ChangeMaps (open_string shut_string)
theorem z7f:laidOutB Tryz.prog=true:=by kernel_rfl
theorem z6F {w:World} {a:Addr} {u:Value} (h:w.cell? (a.add 0)=some u):∃ b off,a=⟨b,off,none⟩:=by
 have h:w.cell? a=some u:=by simpa [Addr.add] using h
 obtain ⟨b,off,s⟩:=a
 cases s with
 | none=>exact ⟨b,off,rfl⟩
 | some s =>
  unfold World.cell? at h
  split at h
  ·simp at h
  ·cases h
theorem z7t {κ:IntKind} {w:World} {a:Addr} {len cap:Nat} {zs:List Int} (hl:len≤cap) (hm:cap≤maxLen) (hz:zs.length=cap) (hc:∀ i,i<zs.length→w.cell? (a.add i)=some (.int κ (zs.getD i 0))) :
  RdN κ w (.slice (some a) len cap) (zs.take len):=by
 have hlen:(zs.take len).length=len:=by simp;omega
 by_cases h0:len=0
 ·subst h0;exact ⟨some a,cap,0,0,by simp,by simp,hm,fun h=>absurd (by simp) h,fun j hj=>absurd hj (by simp)⟩
 ·obtain ⟨b,off,rfl⟩:=z6F (hc 0 (by omega));refine ⟨_,cap,b,off,by rw [hlen],by omega,hm,fun _=>rfl,fun j hj=>?_⟩;have:=hc j (by omega);rw [Addr.add_lit] at this;rw [this]
  congr 2
  rw [hlen] at hj;simp [List.getD,hj]
section
variable {H:Type} {enc:TypeId×Value→H} {P:Program} {W:World} {base:Nat}
theorem z2p {t:TypeId} {v:Value} {d:DataW H} {p:List MemPlace} (h:DataW.Trod enc P W 0 (fun _=>true) true t v d p):∀ x∈p,x.block<W.heap.size:=by
 obtain ⟨m,hm⟩:=h;exact DataW.trod_lt m _ _ _ hm
end
end Go.Proofs.YtlbjjoeocdimfaaGreatDoor
namespace Go.Proofs.YtlbjjoeocdimfaaGreatDoor
open Go.RowKit Go.Sx Go.Lk
def s0:Lk:=⟨[5,3,1],[5,3,1],[-1, -1, -1],[255,255],[[],[]]⟩
end Go.Proofs.YtlbjjoeocdimfaaGreatDoor
namespace Go.Proofs.YtlbjjoeocdimfaaGreatDoor
open Go.RowKit Go.Sx Go.Dl Go.Lk Go.Rq Go.Au Go.ChangeShapes Go.WideShapes Go.ChangeAt
set_option linter.constructorNameAsVariable false
theorem zbk {n:Int} (h:(Lit.int .u32 n).wf=true):zG n:=by
 have h1:(decide ((0:Int)≤n) && decide (n≤4294967295))=true:=h;simp only [Bool.and_eq_true,decide_eq_true_eq] at h1;exact ⟨by omega,by omega⟩
theorem ziS {n:Int} (h:(Lit.int .u64 n).wf=true):0≤n∧n<18446744073709551616:=by
 have h1:(decide ((0:Int)≤n) && decide (n≤18446744073709551615))=true:=h;simp only [Bool.and_eq_true,decide_eq_true_eq] at h1;omega
section
variable {H:Type} {enc:TypeId×Value→H} {P:Program} {W:World}
theorem z3X {t:TypeId} {fs:Array Field} {fuel:Nat} {cs:List Value} {x:DataW H×List MemPlace} (ht:P.underlying t=some (.struct fs)) (h:DataW.trod enc P W 0 (fun _=>true) true fuel t cs=some x) :
  cs.length=P.cellsOf t∧∀ (i:Nat) (f:Field),fs[i]?=some f→∃ n y,DataW.trod enc P W 0 (fun _=>true) true n f.type ((cs.drop f.offset).take (P.cellsOf f.type))=some y:=by
 obtain ⟨xs,n,_,_,hl,hx,hf⟩:=DataW.trod_struct ht h;refine ⟨hl,fun i f e=>⟨n,xs[i]'(by have:=(Array.getElem?_eq_some_iff.1 e).1;omega),?_⟩⟩;rw [hf i f e,List.getElem?_eq_getElem]
theorem znK {cs:List Value} {o:Nat} (h:o<cs.length):(cs.drop o).take 1=[cs[o]]:=by
 rw [List.drop_eq_getElem_cons h];rfl
theorem z3A {t:TypeId} {fs:Array Field} {fuel:Nat} {cs:List Value} {x:DataW H×List MemPlace} (ht:P.underlying t=some (.struct fs)) (h:DataW.trod enc P W 0 (fun _=>true) true fuel t cs=some x)
  {T:TypeId} {i o:Nat} (ho:o<P.cellsOf t) (hg:∃ g:Field,fs[i]?=some g∧g.offset=o∧g.type=T∧P.cellsOf T=1):∃ v n y,cs[o]?=some v∧DataW.trod enc P W 0 (fun _=>true) true n T [v]=some y:=by
 obtain ⟨hl,hf⟩:=z3X ht h;obtain ⟨g,h1,rfl,rfl,h4⟩:=hg;obtain ⟨n,y,h5⟩:=hf i g h1;have hlt:g.offset<cs.length:=by omega
 rw [h4,znK hlt] at h5;exact ⟨_,n,y,List.getElem?_eq_getElem hlt,h5⟩
theorem z0C {t:TypeId} {fs:Array Field} {fuel:Nat} {cs:List Value} {x:DataW H×List MemPlace} (ht:P.underlying t=some (.struct fs)) (h:DataW.trod enc P W 0 (fun _=>true) true fuel t cs=some x)
  {T:TypeId} {κ:IntKind} {i o:Nat} (ho:o<P.cellsOf t) (hT:P.underlying T=some (.int κ)) (hg:∃ g:Field,fs[i]?=some g∧g.offset=o∧g.type=T∧P.cellsOf T=1):∃ m:Int,cs[o]?=some (.int κ m)∧(Lit.int κ m).wf=true:=by
 obtain ⟨v,n,y,h1,h2⟩:=z3A ht h ho hg;obtain ⟨m,e,_,hw⟩:=DataW.trod_int hT h2;simp only [List.cons.injEq,and_true] at e;exact ⟨m,by rw [h1,e],hw⟩
theorem z7Q {t e:TypeId} {κ:IntKind} {n:Nat} {cs:List Value} {x:DataW H×List MemPlace} (ht:P.underlying t=some (.slice e)) (he:P.underlying e=some (.int κ)) (hc:P.cellsOf e=1)
  (h:DataW.trod enc P W 0 (fun _=>true) true n t cs=some x):∃ v l,cs=[v]∧RdN κ W v l∧∀ n∈l,(Lit.int κ n).wf=true:=by
 rcases open_ints ht he hc h with ⟨hcs,_⟩ | ⟨x,l,c,zs,hcs,_,hl,hm,hz,_,hcell,hwz⟩
 ·exact ⟨_,[],hcs,⟨none,0,0,0,rfl,Nat.le_refl _,Nat.zero_le _,fun h=>absurd rfl h,fun j hj=>absurd hj (Nat.not_lt_zero _)⟩,fun n hn=>(by cases hn)⟩
 ·exact ⟨_,_,hcs,z7t hl hm (by simpa using hz) hcell,fun n hn=>hwz n (List.mem_of_mem_take hn)⟩
theorem z7R {α:Type} {sz:Nat} [E:Enc α sz] {t e:TypeId} {fuel:Nat} {cs:List Value} {x:DataW H×List MemPlace} (ht:P.underlying t=some (.slice e)) (ce:P.cellsOf e=sz) {G:α→Prop}
  (he:∀ n cs x,DataW.trod enc P W 0 (fun _=>true) true n e cs=some x→∃ a:α,cs=E.enc a∧G a)
  (h:DataW.trod enc P W 0 (fun _=>true) true fuel t cs=some x):∃ v l,cs=[v]∧RdR W v l∧∀ a∈l,G a:=by
 rcases Go.Deep.open_slice ht h with ⟨hcs,_⟩ | ⟨a,len,cap,m,n,D,Pl,hcs,_,hl,hm,hmm,_,hx⟩
 ·exact ⟨_,[],hcs,z5D W,fun a h=>by cases h⟩
 ·simp at hmm;subst hmm;have each:∀ i,i<m→∃ y:α,G y∧∀ c u,(E.enc y)[c]?=some u→W.cell? (a.add (i*sz+c))=some u:=fun i hi=>by
   obtain ⟨cs',h1,h2⟩:=hx i hi;obtain ⟨_,hlen,hcell⟩:=World.cells?_some h1;obtain ⟨y,rfl,hG⟩:=he _ _ _ h2;refine ⟨y,hG,fun c u hu=>?_⟩;have hc:=hcell c (by rw [ce,← E.len y];exact (List.getElem?_eq_some_iff.1 hu).1);rw [Go.Deep.add_add,ce] at hc;rw [hc];exact hu
  haveI:Inhabited α:=⟨E.dft⟩;obtain ⟨f,hf⟩:=Go.Deep.choose_lt each;have hsz:=E.pos;refine ⟨_,(List.range len).map f,hcs,?_,fun y hy=>?_⟩
  ·by_cases h0:0<len
   ·have hpos:0<(E.enc (f 0)).length:=by rw [E.len];exact hsz
    obtain ⟨b,off,rfl⟩:=z6F (by simpa using (hf 0 (by omega)).2 0 _ (List.getElem?_eq_getElem hpos));refine ⟨_,m,b,off,by simp,by simpa using hl,hm,fun _=>rfl,fun j u hj=>?_⟩;have hjl:=(List.getElem?_eq_some_iff.1 hj).1;rw [zJ,List.length_map,List.length_range] at hjl;have e1:j=j / sz*sz+j%sz:=by rw [Nat.mul_comm];exact (Nat.div_add_mod j sz).symm
    have hk:j / sz<len:=(Nat.div_lt_iff_lt_mul hsz).2 hjl;have hc:j%sz<sz:=Nat.mod_lt _ hsz;rw [e1] at hj;rw [z0Y (by simpa using hk) hc] at hj;have hg:((List.range len).map f).getD (j / sz) E.dft=f (j / sz):=by simp [List.getD,hk]
    rw [hg] at hj;have:=(hf (j / sz) (by omega)).2 _ u hj;rw [← e1,Addr.add_lit] at this;exact this
   ·have:len=0:=by omega
    subst this;exact ⟨some a,m,0,0,rfl,by simp,hm,fun h=>absurd (by simp) h,fun j u hj=>by simp [cellsOf] at hj⟩
  ·rw [List.mem_map] at hy;obtain ⟨i,hi,rfl⟩:=hy;exact (hf i (by have:=List.mem_range.1 hi;omega)).1
end
section
variable {H:Type} {enc:TypeId×Value→H} {W:World}
theorem cs6 {cs:List Value} {a b c d e f:Value} (hl:cs.length=6) (h0:cs[0]?=some a) (h1:cs[1]?=some b) (h2:cs[2]?=some c) (h3:cs[3]?=some d) (h4:cs[4]?=some e) (h5:cs[5]?=some f):cs=[a,b,c,d,e,f]:=by
 match cs,hl with
 | [_,_,_,_,_,_],_=>simp_all
theorem cs2 {cs:List Value} {a b:Value} (hl:cs.length=2) (h0:cs[0]?=some a) (h1:cs[1]?=some b):cs=[a,b]:=by
 match cs,hl with
 | [_,_],_=>simp_all
theorem zo5 {cs:List Value} {a b c d e f g h i j k l:Value} (hl:cs.length=12) (h0:cs[0]?=some a) (h1:cs[1]?=some b) (h2:cs[2]?=some c) (h3:cs[3]?=some d) (h4:cs[4]?=some e) (h5:cs[5]?=some f)
  (h6:cs[6]?=some g) (h7:cs[7]?=some h) (h8:cs[8]?=some i) (h9:cs[9]?=some j) (h10:cs[10]?=some k) (h11:cs[11]?=some l):cs=[a,b,c,d,e,f,g,h,i,j,k,l]:=by
 match cs,hl with
 | [_,_,_,_,_,_,_,_,_,_,_,_],_=>simp_all
abbrev Trd (enc:TypeId×Value→H) (W:World) (n:Nat) (t:TypeId) (cs:List Value) (x:DataW H×List MemPlace):Prop:=DataW.trod enc Tryz.prog W 0 (fun _=>true) true n t cs=some x
theorem ziQ (n:Nat) (cs:List Value) (x:DataW H×List MemPlace) (h:Trd enc W n 104 cs x):∃ i:Ins,cs=za3.enc i∧zG i.k:=by
 have hu:=Tryz.underlying104;have hs:Tryz.prog.cellsOf 104=6:=by kernel_rfl
 have hi:Tryz.prog.underlying 3=some (.int .i64):=Tryz.underlying3;have hk:Tryz.prog.underlying 25=some (.int .u32):=Tryz.underlying25;have ci:Tryz.prog.cellsOf 3=1:=by kernel_rfl
 have ck:Tryz.prog.cellsOf 25=1:=by kernel_rfl
 obtain ⟨m0,a0,_⟩:=z0C hu h (i:=0) (o:=0) (by rw [hs];decide) hi ⟨_,rfl,rfl,rfl,ci⟩;obtain ⟨m1,a1,_⟩:=z0C hu h (i:=1) (o:=1) (by rw [hs];decide) hi ⟨_,rfl,rfl,rfl,ci⟩;obtain ⟨m2,a2,_⟩:=z0C hu h (i:=2) (o:=2) (by rw [hs];decide) hi ⟨_,rfl,rfl,rfl,ci⟩;obtain ⟨m3,a3,_⟩:=z0C hu h (i:=3) (o:=3) (by rw [hs];decide) hi ⟨_,rfl,rfl,rfl,ci⟩;obtain ⟨m4,a4,_⟩:=z0C hu h (i:=4) (o:=4) (by rw [hs];decide) hi ⟨_,rfl,rfl,rfl,ci⟩;obtain ⟨m5,a5,w5⟩:=z0C hu h (i:=5) (o:=5) (by rw [hs];decide) hk ⟨_,rfl,rfl,rfl,ck⟩;exact ⟨⟨m0,m1,m2,m3,m4,m5⟩,cs6 ((z3X hu h).1.trans hs) a0 a1 a2 a3 a4 a5,zbk w5⟩
theorem zbh {n:Nat} {v:Value} {x:DataW H×List MemPlace} (h:Trd enc W n 105 [v] x):∃ l:List Ins,RdR W v l∧∀ i∈l,zG i.k:=by
 obtain ⟨v',l,e,hr,hG⟩:=z7R (E:=za3) Tryz.underlying105 (by kernel_rfl) ziQ h;simp only [List.cons.injEq,and_true] at e;subst e;exact ⟨l,hr,hG⟩
theorem zdj {α:Type} {sz:Nat} [E:Enc α sz] {w:World} {v:Value} {l:List α} (h:RdR w v l):∃ a n c,v=.slice a n c:=by
 obtain ⟨a,cap,b,off,e,_⟩:=h;exact ⟨_,_,_,e⟩
theorem zgK (n:Nat) (cs:List Value) (x:DataW H×List MemPlace) (h:Trd enc W n 107 cs x):∃ t:Tv,cs=z8Q.enc t∧∃ l:List Ins,RdR W t.cv l∧∀ i∈l,zG i.k:=by
 have hu:=Tryz.underlying107;have hs:Tryz.prog.cellsOf 107=6:=by kernel_rfl
 have hi:Tryz.prog.underlying 3=some (.int .i64):=Tryz.underlying3;have ci:Tryz.prog.cellsOf 3=1:=by kernel_rfl
 have ck:Tryz.prog.cellsOf 105=1:=by kernel_rfl
 obtain ⟨m0,a0,_⟩:=z0C hu h (i:=0) (o:=0) (by rw [hs];decide) hi ⟨_,rfl,rfl,rfl,ci⟩;obtain ⟨m1,a1,_⟩:=z0C hu h (i:=1) (o:=1) (by rw [hs];decide) hi ⟨_,rfl,rfl,rfl,ci⟩;obtain ⟨m2,a2,_⟩:=z0C hu h (i:=2) (o:=2) (by rw [hs];decide) hi ⟨_,rfl,rfl,rfl,ci⟩;obtain ⟨m3,a3,_⟩:=z0C hu h (i:=3) (o:=3) (by rw [hs];decide) hi ⟨_,rfl,rfl,rfl,ci⟩;obtain ⟨m4,a4,_⟩:=z0C hu h (i:=4) (o:=4) (by rw [hs];decide) hi ⟨_,rfl,rfl,rfl,ci⟩;obtain ⟨v,n',y,a5,h5⟩:=z3A hu h (i:=5) (o:=5) (by rw [hs];decide) ⟨_,rfl,rfl,rfl,ck⟩;obtain ⟨l,hr,hk⟩:=zbh h5;obtain ⟨ca,cn,cc,rfl⟩:=zdj hr;exact ⟨⟨m0,m1,m2,m3,m4,ca,cn,cc⟩,cs6 ((z3X hu h).1.trans hs) a0 a1 a2 a3 a4 a5,l,hr,hk⟩
theorem zgJ (n:Nat) (cs:List Value) (x:DataW H×List MemPlace) (h:Trd enc W n 112 cs x):∃ t:Lv,cs=z8P.enc t∧∃ l:List Ins,RdR W t.cv l∧∀ i∈l,zG i.k:=by
 have hu:=Tryz.underlying112;have hs:Tryz.prog.cellsOf 112=2:=by kernel_rfl
 have hi:Tryz.prog.underlying 3=some (.int .i64):=Tryz.underlying3;have ci:Tryz.prog.cellsOf 3=1:=by kernel_rfl
 have ck:Tryz.prog.cellsOf 105=1:=by kernel_rfl
 obtain ⟨m0,a0,_⟩:=z0C hu h (i:=0) (o:=0) (by rw [hs];decide) hi ⟨_,rfl,rfl,rfl,ci⟩;obtain ⟨v,n',y,a5,h5⟩:=z3A hu h (i:=1) (o:=1) (by rw [hs];decide) ⟨_,rfl,rfl,rfl,ck⟩;obtain ⟨l,hr,hk⟩:=zbh h5;obtain ⟨ca,cn,cc,rfl⟩:=zdj hr;exact ⟨⟨m0,ca,cn,cc⟩,cs2 ((z3X hu h).1.trans hs) a0 a5,l,hr,hk⟩
theorem zhX {l:List Tv} (h:∀ t∈l, ∃ k:List Ins,RdR W t.cv k∧∀ i∈k,zG i.k):∃ ts:List Tc,l.length=ts.length∧∀ t,t<ts.length→IsT W (l.getD t tv0) (ts.getD t tc0)∧∀ i∈(ts.getD t tc0).code,zG i.k:=by
 induction l with
 | nil=>exact ⟨[],rfl,fun t ht=>absurd ht (by simp)⟩
 | cons a l ih =>
  obtain ⟨ts,e,hi⟩:=ih fun t ht=>h t (List.mem_cons_of_mem _ ht);obtain ⟨k,hr,hk⟩:=h a (List.mem_cons_self ..);refine ⟨⟨a.lev,a.off,a.per,a.dl,a.mem,k⟩::ts,by simp [e],fun t ht=>?_⟩
  cases t with
  | zero=>exact ⟨⟨rfl,rfl,rfl,rfl,rfl,hr⟩,hk⟩
  | succ t =>
   have:=hi t (by simpa using ht)
   simpa [List.getD] using this
theorem zhW {l:List Lv} (h:∀ t∈l, ∃ k:List Ins,RdR W t.cv k∧∀ i∈k,zG i.k):∃ ts:List Lc,l.length=ts.length∧∀ t,t<ts.length→IsL W (l.getD t lv0) (ts.getD t lc0)∧∀ i∈(ts.getD t lc0).code,zG i.k:=by
 induction l with
 | nil=>exact ⟨[],rfl,fun t ht=>absurd ht (by simp)⟩
 | cons a l ih =>
  obtain ⟨ts,e,hi⟩:=ih fun t ht=>h t (List.mem_cons_of_mem _ ht);obtain ⟨k,hr,hk⟩:=h a (List.mem_cons_self ..);refine ⟨⟨a.mem,k⟩::ts,by simp [e],fun t ht=>?_⟩
  cases t with
  | zero=>exact ⟨⟨rfl,hr⟩,hk⟩
  | succ t =>
   have:=hi t (by simpa using ht)
   simpa [List.getD] using this
theorem z4q {base:Nat} {v:Value} {d:DataW H} {p:List MemPlace} (hok:Value.okWide Tryz.prog W .any base 28 v) (h:DataW.Trod enc Tryz.prog W 0 (fun _=>true) true 28 v d p) :
  ∃ c:Cf,z8I W v c∧z6B c:=by
 have hu:=Tryz.underlying28;have hs:Tryz.prog.cellsOf 28=12:=by kernel_rfl
 have hi:Tryz.prog.underlying 3=some (.int .i64):=Tryz.underlying3;have hk:Tryz.prog.underlying 25=some (.int .u32):=Tryz.underlying25;have hq:Tryz.prog.underlying 26=some (.int .u64):=Tryz.underlying26;have ci:Tryz.prog.cellsOf 3=1:=by kernel_rfl
 have ck:Tryz.prog.cellsOf 25=1:=by kernel_rfl
 have cq:Tryz.prog.cellsOf 26=1:=by kernel_rfl
 have cn:Tryz.prog.cellsOf 24=1:=by kernel_rfl
 have ct:Tryz.prog.cellsOf 22=1:=by kernel_rfl
 have cl:Tryz.prog.cellsOf 23=1:=by kernel_rfl
 obtain ⟨cs,rfl,hsz⟩:=okWide_struct hu hok;obtain ⟨fuel,h⟩:=h;have h:DataW.trod enc Tryz.prog W 0 (fun _=>true) true fuel 28 cs.toList=some (d,p):=h;obtain ⟨v0,n0,y0,a0,h0⟩:=z3A hu h (i:=0) (o:=0) (by rw [hs];decide) ⟨_,rfl,rfl,rfl,ct⟩;obtain ⟨v1,n1,y1,a1,h1⟩:=z3A hu h (i:=1) (o:=1) (by rw [hs];decide) ⟨_,rfl,rfl,rfl,cl⟩;obtain ⟨m2,a2,_⟩:=z0C hu h (i:=2) (o:=2) (by rw [hs];decide) hi ⟨_,rfl,rfl,rfl,ci⟩;obtain ⟨v3,n3,y3,a3,h3⟩:=z3A hu h (i:=3) (o:=3) (by rw [hs];decide) ⟨_,rfl,rfl,rfl,cn⟩;obtain ⟨v4,n4,y4,a4,h4⟩:=z3A hu h (i:=4) (o:=4) (by rw [hs];decide) ⟨_,rfl,rfl,rfl,cn⟩;obtain ⟨v5,n5,y5,a5,h5⟩:=z3A hu h (i:=5) (o:=5) (by rw [hs];decide) ⟨_,rfl,rfl,rfl,cn⟩;obtain ⟨m6,a6,_⟩:=z0C hu h (i:=6) (o:=6) (by rw [hs];decide) hi ⟨_,rfl,rfl,rfl,ci⟩;obtain ⟨m7,a7,w7⟩:=z0C hu h (i:=7) (o:=7) (by rw [hs];decide) hk ⟨_,rfl,rfl,rfl,ck⟩;obtain ⟨m8,a8,w8⟩:=z0C hu h (i:=8) (o:=8) (by rw [hs];decide) hk ⟨_,rfl,rfl,rfl,ck⟩;obtain ⟨m9,a9,_⟩:=z0C hu h (i:=9) (o:=9) (by rw [hs];decide) hi ⟨_,rfl,rfl,rfl,ci⟩;obtain ⟨m10,a10,w10⟩:=z0C hu h (i:=10) (o:=10) (by rw [hs];decide) hq ⟨_,rfl,rfl,rfl,cq⟩;obtain ⟨m11,a11,w11⟩:=z0C hu h (i:=11) (o:=11) (by rw [hs];decide) hq ⟨_,rfl,rfl,rfl,cq⟩;have hcs:=zo5 ((z3X hu h).1.trans hs) a0 a1 a2 a3 a4 a5 a6 a7 a8 a9 a10 a11;obtain ⟨_,T,e0,hT,hTk⟩:=z7R (E:=z8Q) Tryz.underlying22 (by kernel_rfl) zgK h0;obtain ⟨_,L,e1,hL,hLk⟩:=z7R (E:=z8P) Tryz.underlying23 (by kernel_rfl) zgJ h1;obtain ⟨_,S,e3,hS,_⟩:=z7Q Tryz.underlying24 hi ci h3;obtain ⟨_,Q,e4,hQ,_⟩:=z7Q Tryz.underlying24 hi ci h4;obtain ⟨_,M,e5,hM,_⟩:=z7Q Tryz.underlying24 hi ci h5;simp only [List.cons.injEq,and_true] at e0 e1 e3 e4 e5;subst e0;subst e1;subst e3;subst e4;subst e5;obtain ⟨ts,lt,ht⟩:=zhX hTk;obtain ⟨ls,ll,hl⟩:=zhW hLk;have r7:=zbk w7;have r8:=zbk w8;have g7:((m7.toNat:Nat):Int)=m7:=Int.toNat_of_nonneg r7.1;have g8:((m8.toNat:Nat):Int)=m8:=Int.toNat_of_nonneg r8.1;refine ⟨⟨ts,ls,m2,S,Q,M,m6,m7.toNat,m8.toNat,m9,m10,m11⟩,⟨_,_,_,_,_,?_,⟨T,hT,lt,fun t h=>(ht t h).1⟩,⟨L,hL,ll,fun t h=>(hl t h).1⟩,hS,hQ,hM⟩,⟨fun t h=>(ht t h).2,fun t h=>(hl t h).2,?_,?_,ziS w10,ziS w11⟩⟩
 ·rw [← Array.toArray_toList (xs:=cs),hcs];show Value.agg _=Value.agg _;rw [g7,g8]
 ·have:=r7.2;show m7.toNat<_;omega
 ·have:=r8.2;show m8.toNat<_;omega
end
section
variable {H:Type} {enc:TypeId×Value→H} {W:World}
theorem cs3 {cs:List Value} {a b c:Value} (hl:cs.length=3) (h0:cs[0]?=some a) (h1:cs[1]?=some b) (h2:cs[2]?=some c):cs=[a,b,c]:=by
 match cs,hl with
 | [_,_,_],_=>simp_all
theorem zrv (n:Nat) (cs:List Value) (x:DataW H×List MemPlace) (h:Trd enc W n 86 cs x):∃ i:Ar,cs=zqj.enc i∧True:=by
 have hu:=Tryz.underlying86;have hs:Tryz.prog.cellsOf 86=2:=by kernel_rfl
 have hi:Tryz.prog.underlying 3=some (.int .i64):=Tryz.underlying3;have ci:Tryz.prog.cellsOf 3=1:=by kernel_rfl
 obtain ⟨m0,a0,_⟩:=z0C hu h (i:=0) (o:=0) (by rw [hs];decide) hi ⟨_,rfl,rfl,rfl,ci⟩;obtain ⟨m1,a1,_⟩:=z0C hu h (i:=1) (o:=1) (by rw [hs];decide) hi ⟨_,rfl,rfl,rfl,ci⟩;exact ⟨⟨m0,m1⟩,cs2 ((z3X hu h).1.trans hs) a0 a1,trivial⟩
theorem zrr {base:Nat} {v:Value} {d:DataW H} {p:List MemPlace} (hok:Value.okWide Tryz.prog W .any base 81 v) (h:DataW.Trod enc Tryz.prog W 0 (fun _=>true) true 81 v d p) :
  ∃ s:Sc,zqQ W v s∧∀ x∈s.tape,zG x:=by
 have hu:=Tryz.underlying81;have hs:Tryz.prog.cellsOf 81=3:=by kernel_rfl
 have hi:Tryz.prog.underlying 3=some (.int .i64):=Tryz.underlying3;have hk:Tryz.prog.underlying 25=some (.int .u32):=Tryz.underlying25;have ci:Tryz.prog.cellsOf 3=1:=by kernel_rfl
 have ck:Tryz.prog.cellsOf 25=1:=by kernel_rfl
 have cn:Tryz.prog.cellsOf 43=1:=by kernel_rfl
 have ct:Tryz.prog.cellsOf 79=1:=by kernel_rfl
 obtain ⟨cs,rfl,hsz⟩:=okWide_struct hu hok;obtain ⟨fuel,h⟩:=h;have h:DataW.trod enc Tryz.prog W 0 (fun _=>true) true fuel 81 cs.toList=some (d,p):=h;obtain ⟨v0,n0,y0,a0,h0⟩:=z3A hu h (i:=0) (o:=0) (by rw [hs];decide) ⟨_,rfl,rfl,rfl,ct⟩;obtain ⟨v1,n1,y1,a1,h1⟩:=z3A hu h (i:=1) (o:=1) (by rw [hs];decide) ⟨_,rfl,rfl,rfl,cn⟩;obtain ⟨m2,a2,_⟩:=z0C hu h (i:=2) (o:=2) (by rw [hs];decide) hi ⟨_,rfl,rfl,rfl,ci⟩;have hcs:=cs3 ((z3X hu h).1.trans hs) a0 a1 a2;obtain ⟨_,A,e0,hA,_⟩:=z7R (E:=zqj) Tryz.underlying79 (by kernel_rfl) zrv h0;obtain ⟨_,T,e1,hT,hW⟩:=z7Q Tryz.underlying43 hk ck h1;simp only [List.cons.injEq,and_true] at e0 e1;subst e0;subst e1;obtain ⟨aa,ac,ab,ao,ea,_⟩:=id hA;obtain ⟨ta,tc,tb,tq,et,_⟩:=id hT;subst ea;subst et;refine ⟨⟨m2,A,T⟩,⟨aa,ac,ta,tc,?_,hA,hT⟩,fun x hx=>zbk (hW x hx)⟩;rw [← Array.toArray_toList (xs:=cs),hcs]
end
end Go.Proofs.YtlbjjoeocdimfaaGreatDoor
namespace Go.Proofs.YtlbjjoeocdimfaaGreatDoor
open Go.RowKit Go.Sx Go.Dl Go.Lk Go.Rq Go.Au
def zoi (l:List Ins) (isr:Bool):Prop:=l.length≤256∧∀ k,k<l.length→z1y (zM l k) l.length isr=0
def zon (t:Tc):Prop:=inR t.lev 0 31=true∧inR t.off 1 1073741824=true∧inR t.per 0 1073741824=true∧inR t.dl 0 1073741824=true∧inR t.mem 0 256=true∧zoi t.code false
def zom (l:Lc):Prop:=inR l.mem 0 256=true∧zoi l.code true
def zok (l:List Int) (lo hi:Int):Prop:=l.length≤32∧∀ k,k<l.length→inR (lg l k) lo hi=true
structure zoF (c:Cf):Prop where
 tn:c.ts.length≤64
 tk:∀ t,t<c.ts.length→zon (tcg c t)
 ln:c.ls.length≤16
 lk:∀ n,n<c.ls.length→zom (lcg c n)
 mu:inR c.mutexes 0 32=true
 se:zok c.sems 0 255
 qu:zok c.queues 1 64
 tm:zok c.timers 0 (c.sems.length-1)
 tb:inR c.table 0 64=true
 ms:z5T c=true
 ch:inR c.charge 0 64=true
theorem zos (l:List Ins) (isr:Bool) (p i a:Int):(z5f l isr p i a).err=0↔zoi l isr:=by
 constructor
 ·intro h;obtain ⟨h1,h2⟩:=zcE h;refine ⟨h1,fun k hk=>h2 _ ?_⟩;unfold zM;simp [List.getD,hk]
 ·rintro ⟨h1,h2⟩;unfold z5f;rw [if_neg (by omega),z38 (fun k hk=>by unfold z1V;simp [h2 k hk])]
theorem zoy (t:Tc) (i:Int):(z53 t i).err=0↔zon t:=by
 unfold z53 zon;rw [← zos t.code false 1 i 6]
 constructor
 ·intro h
  split at h
  ·exact absurd h (by simp)
  split at h
  ·exact absurd h (by simp)
  split at h
  ·exact absurd h (by simp)
  split at h
  ·exact absurd h (by simp)
  split at h
  ·exact absurd h (by simp)
  rename_i h1 h2 h3 h4 h5
  exact ⟨Classical.not_not.1 h1,Classical.not_not.1 h2,Classical.not_not.1 h3,Classical.not_not.1 h4,Classical.not_not.1 h5,h⟩
 ·rintro ⟨h1,h2,h3,h4,h5,h6⟩;rw [if_neg (not_not_intro h1),if_neg (not_not_intro h2),if_neg (not_not_intro h3),if_neg (not_not_intro h4),if_neg (not_not_intro h5)];exact h6
theorem zox (l:Lc) (i:Int):(z6a l i).err=0↔zom l:=by
 unfold z6a zom;rw [← zos l.code true 2 i 2]
 constructor
 ·intro h
  split at h
  ·exact absurd h (by simp)
  rename_i h1
  exact ⟨Classical.not_not.1 h1,h⟩
 ·rintro ⟨h1,h2⟩;rw [if_neg (not_not_intro h1)];exact h2
theorem zoT (l:List Int) (p lo hi:Int):(z84 l p lo hi).err=0↔zok l lo hi:=by
 constructor
 ·intro h;obtain ⟨h1,h2⟩:=zci h;refine ⟨h1,fun k hk=>?_⟩;have:=h2 (lg l k) (by unfold lg;simp [List.getD,hk]);exact decide_eq_true this
 ·rintro ⟨h1,h2⟩;unfold z84;rw [if_neg (by omega),z38 (fun k hk=>by unfold z4j;simp [h2 k hk])]
theorem zoV (z:Bool) (p:Int):(z8u z p).err=0↔z=true:=by
 constructor
 ·exact z9n
 ·rintro rfl;rfl
theorem zoU (a b:Ft):(z86 a b).err=0↔a.err=0∧b.err=0:=by
 constructor
 ·exact z2o
 ·rintro ⟨h1,h2⟩;unfold z86;rw [if_pos h1];exact h2
theorem zow (c:Cf):(z0R c).err=0↔c.ts.length≤64∧(∀ t,t<c.ts.length→zon (tcg c t))∧c.ls.length≤16∧∀ n,n<c.ls.length→zom (lcg c n):=by
 constructor
 ·intro h;obtain ⟨h1,h2,h0⟩:=zaQ h;refine ⟨h1,fun t ht=>(zoy _ _).1 (h2 t ht),(zfD h0).1,fun n hn=>?_⟩;unfold z3I at h0;have l1:=(zfD (c:=c) (by unfold z3I;exact h0)).1;rw [if_neg (by omega)] at h0
  cases f:z1X (z5t c) c.ls.length with
  | some k =>
   rw [f] at h0;have:=z0m (f:(List.range c.ls.length).find? (z5t c)=some k);exact absurd h0 (of_decide_eq_true this.2.1)
  | none=>exact (zox _ _).1 (Classical.not_not.1 (of_decide_eq_false (z2x f n hn)))
 ·rintro ⟨h1,h2,h3,h4⟩;unfold z0R;rw [if_neg (by omega),z38 (fun t ht=>by unfold z5K;simp [(zoy (tcg c t) t).2 (h2 t ht)])];show (z3I c).err=0;unfold z3I;rw [if_neg (by omega),z38 (fun t ht=>by unfold z5t;simp [(zox (lcg c t) t).2 (h4 t ht)])]
theorem zp6 (c:Cf):(z5g c).err=0↔zoF c:=by
 unfold z5g;simp only [zoU,zow,zoV,zoT]
 constructor
 ·rintro ⟨⟨⟨⟨⟨⟨⟨⟨h1,h2,h3,h4⟩,h5⟩,h6⟩,h7⟩,h8⟩,h9⟩,h10⟩,h11⟩;exact ⟨h1,h2,h3,h4,h5,h6,h7,h8,h9,h10,h11⟩
 ·rintro ⟨h1,h2,h3,h4,h5,h6,h7,h8,h9,h10,h11⟩;exact ⟨⟨⟨⟨⟨⟨⟨⟨h1,h2,h3,h4⟩,h5⟩,h6⟩,h7⟩,h8⟩,h9⟩,h10⟩,h11⟩
theorem zqy {l:List Ar}:∀ (k:Nat),(∀ j,j≤k→zqc l j)→1≤(arg l k).step
 | 0,h=>(h 0 (Nat.le_refl _)).1
 | k+1,h=>by
  have h1:=zqy k fun j hj=>h j (by omega);have h2:=(h (k+1) (Nat.le_refl _)).1;unfold zqo at h2;rw [if_neg (by omega)] at h2;have h3:(arg l k).step≤(arg l (k+1)).step:=h2;omega
theorem zrg {l:List Ar} {k:Nat} (h:∀ j,j<k→zqc l j):1≤zqo l k:=by
 unfold zqo
 split
 ·exact Int.le_refl _
 ·exact zqy (k-1) fun j hj=>h j (by omega)
section
variable (g b:Nat) (y:Fx) (c:Cf) (ta:Option Addr) (tc:Nat) (W:Wd)
variable (w0 w:World) (F:HP) (hs:Sat w0 w (wdP g b y c ta tc W*F))
include hs
theorem zsh:Calls Tryz.prog 43 #[.pointer (some ⟨g,0,none⟩)] w (zp w0 (.int .i64 W.done) (wdP g b y c ta tc W*F)):=by
 go_enter Tryz.func43,Tryz.ntmps43
 go_wp2_with fail;go_ret;exact ⟨rfl,z3⟩
theorem zsi (hd:(W.done:Int)≤W.steps∧W.steps≤65536):Calls Tryz.prog 39 #[.pointer (some ⟨g,0,none⟩)] w (zp w0 (.int .i64 (W.steps-W.done)) (wdP g b y c ta tc W*F)):=by
 have u1:IntKind.i64.wrap (W.steps-W.done)=W.steps-W.done:=by rw [IntKind.wrap_i64];omega
 clear hd
 go_enter Tryz.func39,Tryz.ntmps39
 go_wp2_with fail;go_quiet (fail);go_wp2_with fail;go_ret;exact ⟨rfl,z3⟩
end
theorem zrS (v:Value) (s:Sc) (w0:World) (hr:zqQ w0 v s):Calls Tryz.prog 41 #[v] w0 (zp w0 (.int .i64 (scE s)) emp):=by
 have hs:=Sat.start w0;obtain ⟨st,A,T⟩:=s;obtain ⟨aa,ac,ta,tc,rfl,hA,hT⟩:=hr;dsimp only at hA hT ⊢;obtain ⟨_,_,ag,ao,e0,_,_,ha,hc⟩:=hA;clear hT;simp only [Value.slice.injEq,true_and] at e0
 by_cases g1:st<0
 ·have hx:=hid (zqD (s:=⟨st,A,T⟩) (.inl g1));have d1:decide (st<0)=true:=decide_eq_true g1;rw [hx.out];clear g1 ha hc e0
  go_enter Tryz.func41,Tryz.ntmps41
  go_wp2_with fail;go_ret;exact ⟨rfl,z3⟩
 have d1:decide (st<0)=false:=decide_eq_false g1
 by_cases g2:65536<st
 ·have hx:=hid (zqD (s:=⟨st,A,T⟩) (.inr g2));have d2:decide (65536<st)=true:=decide_eq_true g2;rw [hx.out];clear g1 g2 ha hc e0
  go_enter Tryz.func41,Tryz.ntmps41
  go_wp2_with fail;go_ret;exact ⟨rfl,z3⟩
 have d2:decide (65536<st)=false:=decide_eq_false g2;have G1:=hid (show ¬ (st<0∨65536<st) by omega);clear g1 g2
 by_cases g3:65536<A.length
 ·have hx:=hid (zqp (s:=⟨st,A,T⟩) G1.out (.inl g3));have d3:decide (65536<A.length)=true:=decide_eq_true g3;have e3:decide ((65536:Int)<(A.length:Int))=true:=by simp;omega
  rw [hx.out];clear g3 ha hc e0
  go_enter Tryz.func41,Tryz.ntmps41
  go_wp2_with fail;go_ret;exact ⟨rfl,z3⟩
 have d3:decide (65536<A.length)=false:=decide_eq_false g3;have e3:decide ((65536:Int)<(A.length:Int))=false:=by simp;omega
 by_cases g4:65536<T.length
 ·have hx:=hid (zqp (s:=⟨st,A,T⟩) G1.out (.inr g4));have d4:decide (65536<T.length)=true:=decide_eq_true g4;have e4:decide ((65536:Int)<(T.length:Int))=true:=by simp;omega
  rw [hx.out];clear g3 g4 ha hc e0
  go_enter Tryz.func41,Tryz.ntmps41
  go_wp2_with fail;go_ret;exact ⟨rfl,z3⟩
 have d4:decide (65536<T.length)=false:=decide_eq_false g4;have e4:decide ((65536:Int)<(T.length:Int))=false:=by simp;omega
 have G2:=hid (show ¬ (65536<A.length∨65536<T.length) by omega);have hAl:A.length≤65536:=by omega
 obtain ⟨rfl,rfl⟩:=e0;have Ha:=hid ha;have Hx:=hid hc;clear g3 g4 ha hc
 go_enter Tryz.func41,Tryz.ntmps41
 go_wp2_with fail;refine z9 (w0:=w0) ?_;intro ww hsw;clear hs
 go_loopw [3] (fun i wr=>∃ k:Nat,k≤A.length∧i=.int .i64 k∧(∀ j,j<k→zqc A j)∧Sat w0 wr (pts w0.heap.size 0 [.slice aa A.length ac,.slice ta T.length tc,.int .i64 st]*any)) (fun i _=>A.length-(intOf i).toNat)
 case atStart=>exact ⟨0,Nat.zero_le _,rfl,fun j hj=>absurd hj (by omega),z3⟩
 case round =>
  obtain ⟨k,hk,rfl,hb,hsr⟩:=hrel;clear hsw;have Hb:=hid hb;clear hb
  by_cases hlt:k<A.length
  ·have f3:decide (k<A.length)=true:=decide_eq_true hlt;have i3:(k:Int)<(A.length:Int):=by omega
   obtain rfl:=Ha.out (by intro h;simp [h] at hlt);obtain ⟨x,hx⟩:∃ x,x=arg A k:=⟨_,rfl⟩;have oc:∀ c u,c<2→(zqj.enc x)[c]?=some u→w0.cell? ⟨ag,ao+k*2+c,none⟩=some u:=fun c u hc6 he=>z2i Hx.out hlt hc6 (by show (zqj.enc (arg A k))[c]?=some u;rw [← hx];exact he);haveI o0:Old w0 ag (ao+k*2) (.int .i64 x.step):=⟨oc 0 _ (by decide) rfl⟩;haveI o1:Old w0 ag (ao+k*2+1) (.int .i64 x.line):=⟨oc 1 _ (by decide) rfl⟩;have hbad:=hid fun (h:x.step<zqo A k∨x.line<0∨16≤x.line)=>zrl (s:=⟨st,A,T⟩) G1.out G2.out (k:=k) hlt (zrj (by rw [← hx];exact h));have hgood:=hid fun (h:¬ (x.step<zqo A k∨x.line<0∨16≤x.line))=>(show zqc A k by unfold zqc;rw [← hx];omega);have hlast:=hid (zrg Hb.out);clear oc hx;obtain ⟨xs,xl⟩:=x;dsimp only at hbad hgood o0 o1
   by_cases b0:xs<1
   ·have q0:decide (xs<1)=true:=decide_eq_true b0;have hz:=hid (hbad.out (.inl (by have:=hlast.out;omega)));clear b0 hbad hgood hlast;go_wp2_with fail;go_quiet (fail);go_wp2_with fail;go_ret;refine ⟨?_,z3⟩;show Ending.returned (.int .i64 5)=.returned (.int .i64 (scE ⟨st,A,T⟩));rw [hz.out]
   have q0:decide (xs<1)=false:=decide_eq_false b0
   rcases k with _ | j
   ·have hl0:zqo A 0=1:=rfl;rw [hl0] at hbad hgood
    by_cases b2:xl<0
    ·have q2:decide (xl<0)=true:=decide_eq_true b2;have hz:=hid (hbad.out (.inr (.inl b2)));clear b0 hl0 b2 hbad hgood hlast;go_wp2_with fail;go_quiet (fail);go_wp2_with fail;go_ret;refine ⟨?_,z3⟩;show Ending.returned (.int .i64 5)=.returned (.int .i64 (scE ⟨st,A,T⟩));rw [hz.out]
    have q2:decide (xl<0)=false:=decide_eq_false b2
    by_cases b3:15<xl
    ·have q3:decide (15<xl)=true:=decide_eq_true b3;have hz:=hid (hbad.out (.inr (.inr (by omega))));clear b0 hl0 b2 b3 hbad hgood hlast;go_wp2_with fail;go_quiet (fail);go_wp2_with fail;go_ret;refine ⟨?_,z3⟩;show Ending.returned (.int .i64 5)=.returned (.int .i64 (scE ⟨st,A,T⟩));rw [hz.out]
    have q3:decide (15<xl)=false:=decide_eq_false b3;have hb2:=hid (zqt Hb.out (hgood.out (by omega)));clear b0 hl0 b2 b3 hbad hgood hlast;go_wp2_with fail;go_quiet (fail);go_wp2_with fail;go_roundw
    case rel=>exact ⟨1,by omega,by go_num,hb2.out,z3⟩
    case measure=>simp [intOf];omega
   ·obtain ⟨y,hy⟩:∃ y,y=arg A j:=⟨_,rfl⟩;have oy:∀ c u,c<2→(zqj.enc y)[c]?=some u→w0.cell? ⟨ag,ao+j*2+c,none⟩=some u:=fun c u hc6 he=>z2i Hx.out (show j<A.length by omega) hc6 (by show (zqj.enc (arg A j))[c]?=some u;rw [← hy];exact he);haveI o2:Old w0 ag (ao+j*2) (.int .i64 y.step):=⟨oy 0 _ (by decide) rfl⟩;have hl0:zqo A (j+1)=y.step:=by rw [zqz,← hy]
    rw [hl0] at hbad hgood;have f4:decide (j<A.length)=true:=decide_eq_true (by omega);have i4:(j:Int)<(A.length:Int):=by omega
    have p0:decide ((0:Int)<(j:Int)+1)=true:=decide_eq_true (by omega);have p1:((j:Int)+1)-1=j:=by omega
    clear oy hy;obtain ⟨ys,yl⟩:=y;dsimp only at hbad hgood o2 hl0
    by_cases b1:xs<ys
    ·have q1:decide (xs<ys)=true:=decide_eq_true b1;have hz:=hid (hbad.out (.inl b1));clear b0 b1 hbad hgood hlast hl0;go_wp2_with fail;go_quiet (fail);go_wp2_with fail;go_ret;refine ⟨?_,z3⟩;show Ending.returned (.int .i64 5)=.returned (.int .i64 (scE ⟨st,A,T⟩));rw [hz.out]
    have q1:decide (xs<ys)=false:=decide_eq_false b1
    by_cases b2:xl<0
    ·have q2:decide (xl<0)=true:=decide_eq_true b2;have hz:=hid (hbad.out (.inr (.inl b2)));clear b0 b1 hl0 b2 hbad hgood hlast;go_wp2_with fail;go_quiet (fail);go_wp2_with fail;go_ret;refine ⟨?_,z3⟩;show Ending.returned (.int .i64 5)=.returned (.int .i64 (scE ⟨st,A,T⟩));rw [hz.out]
    have q2:decide (xl<0)=false:=decide_eq_false b2
    by_cases b3:15<xl
    ·have q3:decide (15<xl)=true:=decide_eq_true b3;have hz:=hid (hbad.out (.inr (.inr (by omega))));clear b0 b1 hl0 b2 b3 hbad hgood hlast;go_wp2_with fail;go_quiet (fail);go_wp2_with fail;go_ret;refine ⟨?_,z3⟩;show Ending.returned (.int .i64 5)=.returned (.int .i64 (scE ⟨st,A,T⟩));rw [hz.out]
    have q3:decide (15<xl)=false:=decide_eq_false b3;have hb2:=hid (zqt Hb.out (hgood.out (by omega)));clear b0 b1 hl0 b2 b3 hbad hgood hlast;go_wp2_with fail;go_quiet (fail);go_wp2_with fail;go_roundw
    case rel=>exact ⟨j+1+1,by omega,by go_num,hb2.out,z3⟩
    case measure=>simp [intOf];omega
  ·have hkl:k=A.length:=by omega
   subst hkl;have f3:decide (A.length<A.length)=false:=by simp
   have hx:=hid (zrC (s:=⟨st,A,T⟩) G1.out G2.out Hb.out);clear hlt hk;go_wp2_with fail;go_ret;refine ⟨?_,z3⟩;show Ending.returned (.int .i64 0)=.returned (.int .i64 (scE ⟨st,A,T⟩));rw [hx.out]
structure zez (c:Cf):Prop where
 t:c.ts.length≤70
 l:c.ls.length≤20
 s:c.sems.length≤40
 q:c.queues.length≤40
 m:c.timers.length≤40
 tc:∀ t,t<c.ts.length→(tcg c t).code.length≤300
 lc:∀ t,t<c.ls.length→(lcg c t).code.length≤300
def znV (w0:World) (P:HP) (Q:Prop) (e:Ending) (w':World):Prop:=∃ z:Bool,e=.returned (.bool z)∧Sat w0 w' P∧(z=false→Q)
theorem zik (v:Value) (c:Cf) (w0:World) (hr:z8I w0 v c) :
  Calls Tryz.prog 49 #[v] w0 (znV w0 emp (zez c)):=by
 have hs:=Sat.start w0;obtain ⟨tv,lv,sv,qv,mv,rfl,⟨T,hT,hTn,hTi⟩,⟨L,hL,hLn,hLi⟩,hS,hQ,hM⟩:=hr.out;clear hr;obtain ⟨sa,scap,_,_,rfl,_⟩:=hS;obtain ⟨qa,qcap,_,_,rfl,_⟩:=hQ;obtain ⟨ma,mcap,_,_,rfl,_⟩:=hM;obtain ⟨ta,tcap,tg,tto,rfl,_,_,hta,htc⟩:=hT;obtain ⟨la,lcap,lg',lo,rfl,_,_,hla,hlc⟩:=hL;rw [hTn,hLn];have Hta:=hid hta;have Htc:=hid htc;have Hla:=hid hla;have Hlc:=hid hlc;have HTn:=hid hTn;have HLn:=hid hLn;have HTi:=hid hTi;have HLi:=hid hLi;clear hta htc hla hlc hTn hLn hTi hLi
 by_cases g1:70<c.ts.length
 ·have d1:decide (70<c.ts.length)=true:=decide_eq_true g1;have d2:decide ((70:Int)<(c.ts.length:Int))=true:=by simp;omega
  clear g1
  go_enter Tryz.func49,Tryz.ntmps49
  go_wp2_with fail;go_ret;exact ⟨true,rfl,z3,fun h=>by cases h⟩
 have d1:decide (70<c.ts.length)=false:=decide_eq_false g1;have e1:decide ((70:Int)<(c.ts.length:Int))=false:=by simp;omega
 by_cases g2:20<c.ls.length
 ·have d2:decide (20<c.ls.length)=true:=decide_eq_true g2;have e2:decide ((20:Int)<(c.ls.length:Int))=true:=by simp;omega
  go_enter Tryz.func49,Tryz.ntmps49
  go_wp2_with fail;go_ret;exact ⟨true,rfl,z3,fun h=>by cases h⟩
 have d2:decide (20<c.ls.length)=false:=decide_eq_false g2;have e2:decide ((20:Int)<(c.ls.length:Int))=false:=by simp;omega
 by_cases g3:40<c.sems.length
 ·have d3:decide (40<c.sems.length)=true:=decide_eq_true g3;have e3:decide ((40:Int)<(c.sems.length:Int))=true:=by simp;omega
  go_enter Tryz.func49,Tryz.ntmps49
  go_wp2_with fail;go_ret;exact ⟨true,rfl,z3,fun h=>by cases h⟩
 have d3:decide (40<c.sems.length)=false:=decide_eq_false g3;have e3:decide ((40:Int)<(c.sems.length:Int))=false:=by simp;omega
 by_cases g4:40<c.queues.length
 ·have d4:decide (40<c.queues.length)=true:=decide_eq_true g4;have e4:decide ((40:Int)<(c.queues.length:Int))=true:=by simp;omega
  go_enter Tryz.func49,Tryz.ntmps49
  go_wp2_with fail;go_ret;exact ⟨true,rfl,z3,fun h=>by cases h⟩
 have d4:decide (40<c.queues.length)=false:=decide_eq_false g4;have e4:decide ((40:Int)<(c.queues.length:Int))=false:=by simp;omega
 by_cases g5:40<c.timers.length
 ·have d5:decide (40<c.timers.length)=true:=decide_eq_true g5;have e5:decide ((40:Int)<(c.timers.length:Int))=true:=by simp;omega
  go_enter Tryz.func49,Tryz.ntmps49
  go_wp2_with fail;go_ret;exact ⟨true,rfl,z3,fun h=>by cases h⟩
 have d5:decide (40<c.timers.length)=false:=decide_eq_false g5;have e5:decide ((40:Int)<(c.timers.length:Int))=false:=by simp;omega
 go_enter Tryz.func49,Tryz.ntmps49
 go_wp2_with fail;refine z9 (w0:=w0) ?_;intro ww hsw;clear hs
 go_loopw [3,4] (fun nv i wr=>∃ k n:Nat,k≤c.ts.length∧n≤300*k∧nv=.int .i64 n∧i=.int .i64 k∧(∀ j,j<k→(tcg c j).code.length≤300)∧Sat w0 wr (pts w0.heap.size 0 [.slice ta c.ts.length tcap,.slice la c.ls.length lcap,.int .i64 c.mutexes,.slice sa c.sems.length scap,.slice qa c.queues.length qcap,.slice ma c.timers.length mcap,.int .i64 c.table,.int .u32 c.mask,.int .u32 c.filter,.int .i64 c.charge,.int .u64 c.cycle,.int .u64 c.count]*any)) (fun _ i _=>c.ts.length-(intOf i).toNat)
 case atStart=>exact ⟨0,0,Nat.zero_le _,Nat.zero_le _,rfl,rfl,fun j hj=>absurd hj (by omega),z3⟩
 case round =>
  obtain ⟨k,n,hk,hn,rfl,rfl,hb,hsr⟩:=hrel;clear hsw;have Hb:=hid hb;clear hb
  by_cases hlt:k<c.ts.length
  ·have f3:decide (k<c.ts.length)=true:=decide_eq_true hlt;have i3:(k:Int)<(c.ts.length:Int):=by omega
   have hTl:=HTn.out;obtain rfl:=Hta.out (by intro h;simp [h] at hTl;omega);have hit:=HTi.out k hlt;obtain ⟨u,hu⟩:∃ u,u=T.getD k tv0:=⟨_,rfl⟩;have oc:∀ c' y,c'<6→(z8Q.enc u)[c']?=some y→w0.cell? ⟨tg,tto+k*6+c',none⟩=some y:=fun c' y hc6 he=>z2i Htc.out (by omega) hc6 (by show (z8Q.enc (T.getD k tv0))[c']?=some y;rw [← hu];exact he);rw [← hu] at hit;have hcl:u.cn=(tcg c k).code.length:=hit.code.caps.1;haveI o5:Old w0 tg (tto+k*6+5) (.slice u.ca u.cn u.cc):=⟨oc 5 _ (by decide) rfl⟩;clear oc hu hTl hit
   by_cases hz0:300<u.cn
   ·have f4:decide (300<u.cn)=true:=decide_eq_true hz0;have i4:decide ((300:Int)<(u.cn:Int))=true:=by simp;omega
    clear hcl;go_wp2_with fail;go_ret;exact ⟨true,rfl,z3,fun h=>by cases h⟩
   ·have f4:decide (300<u.cn)=false:=decide_eq_false hz0;have i4:decide ((300:Int)<(u.cn:Int))=false:=by simp;omega
    have hb2:Hid (∀ j,j<k+1→(tcg c j).code.length≤300):=hid fun j hj=>by
     rcases Nat.lt_or_ge j k with h | h
     ·exact Hb.out j h
     ·obtain rfl:j=k:=by omega
      omega
    clear hcl;go_wp2_with fail;go_roundw
    case rel=>exact ⟨k+1,n+u.cn,by omega,by omega,by go_num,by go_num,hb2.out,z3⟩
    case measure=>simp [intOf];omega
  ·have hkl:k=c.ts.length:=by omega
   subst hkl;have f3:decide (c.ts.length<c.ts.length)=false:=by simp
   clear hlt hk;go_wp2_with fail;refine z9 (w0:=w0) ?_;intro w3 hs3;clear hsr
   go_loopw [3,5] (fun nv i wr=>∃ k n:Nat,k≤c.ls.length∧n≤300*70+300*k∧nv=.int .i64 n∧i=.int .i64 k∧(∀ j,j<k→(lcg c j).code.length≤300)∧Sat w0 wr (pts w0.heap.size 0 [.slice ta c.ts.length tcap,.slice la c.ls.length lcap,.int .i64 c.mutexes,.slice sa c.sems.length scap,.slice qa c.queues.length qcap,.slice ma c.timers.length mcap,.int .i64 c.table,.int .u32 c.mask,.int .u32 c.filter,.int .i64 c.charge,.int .u64 c.cycle,.int .u64 c.count]*any)) (fun _ i _=>c.ls.length-(intOf i).toNat)
   case atStart=>exact ⟨0,n,Nat.zero_le _,by omega,rfl,rfl,fun j hj=>absurd hj (by omega),z3⟩
   case round =>
    obtain ⟨k,n,hk,hn,rfl,rfl,hb,hsr⟩:=hrel;clear hs3;have Hb2:=hid hb;clear hb
    by_cases hlt:k<c.ls.length
    ·have f3:decide (k<c.ls.length)=true:=decide_eq_true hlt;have i3:(k:Int)<(c.ls.length:Int):=by omega
     have hLl:=HLn.out;obtain rfl:=Hla.out (by intro h;simp [h] at hLl;omega);have hit:=HLi.out k hlt;obtain ⟨u,hu⟩:∃ u,u=L.getD k lv0:=⟨_,rfl⟩;have oc:∀ c' y,c'<2→(z8P.enc u)[c']?=some y→w0.cell? ⟨lg',lo+k*2+c',none⟩=some y:=fun c' y hc6 he=>z2i Hlc.out (by omega) hc6 (by show (z8P.enc (L.getD k lv0))[c']?=some y;rw [← hu];exact he);rw [← hu] at hit;have hcl:u.cn=(lcg c k).code.length:=hit.code.caps.1;haveI o5:Old w0 lg' (lo+k*2+1) (.slice u.ca u.cn u.cc):=⟨oc 1 _ (by decide) rfl⟩;clear oc hu hLl hit
     by_cases hz0:300<u.cn
     ·have f4:decide (300<u.cn)=true:=decide_eq_true hz0;have i4:decide ((300:Int)<(u.cn:Int))=true:=by simp;omega
      clear hcl;go_wp2_with fail;go_ret;exact ⟨true,rfl,z3,fun h=>by cases h⟩
     ·have f4:decide (300<u.cn)=false:=decide_eq_false hz0;have i4:decide ((300:Int)<(u.cn:Int))=false:=by simp;omega
      have hb2:Hid (∀ j,j<k+1→(lcg c j).code.length≤300):=hid fun j hj=>by
       rcases Nat.lt_or_ge j k with h | h
       ·exact Hb2.out j h
       ·obtain rfl:j=k:=by omega
        omega
      clear hcl;go_wp2_with fail;go_roundw
      case rel=>exact ⟨k+1,n+u.cn,by omega,by omega,by go_num,by go_num,hb2.out,z3⟩
      case measure=>simp [intOf];omega
    ·have hkl:k=c.ls.length:=by omega
     subst hkl;have f3:decide (c.ls.length<c.ls.length)=false:=by simp
     clear hlt hk;go_wp2_with fail;go_ret;exact ⟨_,rfl,z3,fun _=>⟨by omega,by omega,by omega,by omega,by omega,Hb.out,Hb2.out⟩⟩
theorem z9a (v:Value) (c:Cf) (n:Int) (w0:World) (hr:z8I w0 v c) :
  Calls Tryz.prog 13 #[v,.int .i64 n] w0 (znV w0 emp (zez c∧n≤200)):=by
 have hs:=Sat.start w0;have hA:=hid (fun (w:World) (h:Sat w0 w any)=>zik v c w (hr.later h));obtain ⟨tv,lv,sv,qv,mv,rfl,⟨T,hT,hTn,hTi⟩,⟨L,hL,hLn,hLi⟩,hS,hQ,hM⟩:=hr.out;clear hr;obtain ⟨sa,scap,_,_,rfl,_⟩:=hS;obtain ⟨qa,qcap,_,_,rfl,_⟩:=hQ;obtain ⟨ma,mcap,_,_,rfl,_⟩:=hM;obtain ⟨ta,tcap,tg,tto,rfl,_,_,hta,htc⟩:=hT;obtain ⟨la,lcap,lg',lo,rfl,_,_,hla,hlc⟩:=hL;rw [hTn,hLn] at hA;rw [hTn,hLn];have Hta:=hid hta;have Htc:=hid htc;have Hla:=hid hla;have Hlc:=hid hlc;have HTn:=hid hTn;have HLn:=hid hLn;have HTi:=hid hTi;have HLi:=hid hLi;clear hta htc hla hlc hTn hLn hTi hLi
 go_enter Tryz.func13,Tryz.ntmps13
 go_wp2_with fail;refine (hA.out _ z3).mono ?_;rintro en w1 ⟨z,rfl,hs1,hz⟩;have hs2:=Sat.past (w0:=w0) z6 hs1;have Hz:=hid hz;clear hs1 hs hz hA
 cases z
 case true =>
  go_wp2_with fail;go_ret;exact ⟨true,rfl,z3,fun h=>by cases h⟩
 case false =>
  have hp:=Hz.out rfl;have g1:=hp.t;have g2:=hp.l;have Hp:=hid hp;clear hp Hz;go_wp2_with fail;refine z9 (w0:=w0) ?_;intro ww hsw;clear hs2
  go_loopw [5,15] (fun nv i wr=>∃ k m:Nat,k≤c.ts.length∧m≤1000*k∧nv=.int .i64 m∧i=.int .i64 k∧Sat w0 wr (pts w0.heap.size 0 [.slice ta c.ts.length tcap,.slice la c.ls.length lcap,.int .i64 c.mutexes,.slice sa c.sems.length scap,.slice qa c.queues.length qcap,.slice ma c.timers.length mcap,.int .i64 c.table,.int .u32 c.mask,.int .u32 c.filter,.int .i64 c.charge,.int .u64 c.cycle,.int .u64 c.count]*any)) (fun _ i _=>c.ts.length-(intOf i).toNat)
  case atStart=>exact ⟨0,0,Nat.zero_le _,Nat.zero_le _,rfl,rfl,z3⟩
  case round =>
   obtain ⟨k,m,hk,hm,rfl,rfl,hsr⟩:=hrel;clear hsw
   by_cases hlt:k<c.ts.length
   ·have f3:decide (k<c.ts.length)=true:=decide_eq_true hlt;have i3:(k:Int)<(c.ts.length:Int):=by omega
    have hTl:=HTn.out;obtain rfl:=Hta.out (by intro h;simp [h] at hTl;omega);obtain ⟨u,hu⟩:∃ u,u=T.getD k tv0:=⟨_,rfl⟩;have oc:∀ c' y,c'<6→(z8Q.enc u)[c']?=some y→w0.cell? ⟨tg,tto+k*6+c',none⟩=some y:=fun c' y hc6 he=>z2i Htc.out (by omega) hc6 (by show (z8Q.enc (T.getD k tv0))[c']?=some y;rw [← hu];exact he);haveI o0:Old w0 tg (tto+k*6) (.int .i64 u.lev):=⟨oc 0 _ (by decide) rfl⟩;haveI o1:Old w0 tg (tto+k*6+1) (.int .i64 u.off):=⟨oc 1 _ (by decide) rfl⟩;haveI o2:Old w0 tg (tto+k*6+2) (.int .i64 u.per):=⟨oc 2 _ (by decide) rfl⟩;haveI o3:Old w0 tg (tto+k*6+3) (.int .i64 u.dl):=⟨oc 3 _ (by decide) rfl⟩;haveI o4:Old w0 tg (tto+k*6+4) (.int .i64 u.mem):=⟨oc 4 _ (by decide) rfl⟩;haveI o5:Old w0 tg (tto+k*6+5) (.slice u.ca u.cn u.cc):=⟨oc 5 _ (by decide) rfl⟩;clear oc hu hTl;have hq:∀ x:Int,0≤(if 1000<(if x<0 then 0 else x) then 1000 else if x<0 then 0 else x)∧(if 1000<(if x<0 then 0 else x) then 1000 else if x<0 then 0 else x)≤1000:=fun x=>by split<;>split<;>omega
    have Hq:=hid (hq u.mem);clear hq;go_wp2_with fail;have Hq:=Hq.out;generalize (if 1000<(if u.mem<0 then 0 else u.mem) then (1000:Int) else if u.mem<0 then 0 else u.mem)=q at *;obtain ⟨q,rfl⟩:=Int.eq_ofNat_of_zero_le Hq.1;refine ⟨⟨k+1,m+q,by omega,by omega,by go_num,by go_num,z3⟩,?_⟩;simp [intOf];omega
   ·have hkl:k=c.ts.length:=by omega
    subst hkl;have f3:decide (c.ts.length<c.ts.length)=false:=by simp
    clear hlt hk;go_wp2_with fail;refine z9 (w0:=w0) ?_;intro w3 hs3;clear hsr
    go_loopw [5,29] (fun nv i wr=>∃ k m:Nat,k≤c.ls.length∧m≤70000+1000*k∧nv=.int .i64 m∧i=.int .i64 k∧Sat w0 wr (pts w0.heap.size 0 [.slice ta c.ts.length tcap,.slice la c.ls.length lcap,.int .i64 c.mutexes,.slice sa c.sems.length scap,.slice qa c.queues.length qcap,.slice ma c.timers.length mcap,.int .i64 c.table,.int .u32 c.mask,.int .u32 c.filter,.int .i64 c.charge,.int .u64 c.cycle,.int .u64 c.count]*any)) (fun _ i _=>c.ls.length-(intOf i).toNat)
    case atStart=>exact ⟨0,m,Nat.zero_le _,by omega,rfl,rfl,z3⟩
    case round =>
     obtain ⟨k,m,hk,hm,rfl,rfl,hsr⟩:=hrel;clear hs3
     by_cases hlt:k<c.ls.length
     ·have f3:decide (k<c.ls.length)=true:=decide_eq_true hlt;have i3:(k:Int)<(c.ls.length:Int):=by omega
      have hLl:=HLn.out;obtain rfl:=Hla.out (by intro h;simp [h] at hLl;omega);obtain ⟨u,hu⟩:∃ u,u=L.getD k lv0:=⟨_,rfl⟩;have oc:∀ c' y,c'<2→(z8P.enc u)[c']?=some y→w0.cell? ⟨lg',lo+k*2+c',none⟩=some y:=fun c' y hc6 he=>z2i Hlc.out (by omega) hc6 (by show (z8P.enc (L.getD k lv0))[c']?=some y;rw [← hu];exact he);haveI o0:Old w0 lg' (lo+k*2) (.int .i64 u.mem):=⟨oc 0 _ (by decide) rfl⟩;haveI o1:Old w0 lg' (lo+k*2+1) (.slice u.ca u.cn u.cc):=⟨oc 1 _ (by decide) rfl⟩;clear oc hu hLl;have hq:∀ x:Int,0≤(if 1000<(if x<0 then 0 else x) then 1000 else if x<0 then 0 else x)∧(if 1000<(if x<0 then 0 else x) then 1000 else if x<0 then 0 else x)≤1000:=fun x=>by split<;>split<;>omega
      have Hq:=hid (hq u.mem);clear hq;go_wp2_with fail;have Hq:=Hq.out;generalize (if 1000<(if u.mem<0 then 0 else u.mem) then (1000:Int) else if u.mem<0 then 0 else u.mem)=q at *;obtain ⟨q,rfl⟩:=Int.eq_ofNat_of_zero_le Hq.1;refine ⟨⟨k+1,m+q,by omega,by omega,by go_num,by go_num,z3⟩,?_⟩;simp [intOf];omega
     ·have hkl:k=c.ls.length:=by omega
      subst hkl;have f3:decide (c.ls.length<c.ls.length)=false:=by simp
      clear hlt hk
      by_cases hn:200<n
      ·have f4:decide (200<n)=true:=decide_eq_true hn;go_wp2_with fail;go_ret;exact ⟨true,rfl,z3,fun h=>by cases h⟩
      ·have f4:decide (200<n)=false:=decide_eq_false hn;go_wp2_with fail;go_ret
       first | exact ⟨_,rfl,z3,fun _=>Hp.out⟩ | exact ⟨_,rfl,z3,fun _=>⟨Hp.out,by omega⟩⟩
theorem zrn (v u:Value) (c:Cf) (s:Sc) (rg:z6B c) (w0:World) (hr:z8I w0 v c) (hq:zqQ w0 u s) (he:wdE c s≠0) :
  Calls Tryz.prog 37 #[v,u] w0 (zp w0 (.tuple #[.pointer none,.int .i64 (wdE c s)]) emp):=by
 unfold wdE at he ⊢
 split at he
 ·rename_i h;rw [if_pos h];exact zqO v u c s rg w0 hr hq h
 ·rename_i h;rw [if_neg h];exact zr6 v u c s rg w0 hr hq (Classical.not_not.1 h) he
end Go.Proofs.YtlbjjoeocdimfaaGreatDoor
namespace Go.Proofs.YtlbjjoeocdimfaaGreatDoor
open Go.RowKit Go.Sx
def zp5 (u:Nat):ByteArray:=⟨(((if u.testBit 0 then [65] else []:List UInt8)++((if u.testBit 1 then [66] else [])++((if u.testBit 2 then [67] else [])++((if u.testBit 3 then [68] else [])++(if u.testBit 4 then [75] else [])))))).toArray⟩
theorem zpi (op:Int) (w:World):Calls Tryz.prog 213 #[.int .i64 op] w fun e w'=>e=.returned (.string (zp5 (z0x op)))∧w=w':=by
 by_cases h:1≤op∧op≤38
 ·rcases zi7 h with rfl | rfl | rfl | rfl | rfl | rfl | rfl | rfl | rfl | rfl | rfl | rfl | rfl | rfl | rfl | rfl | rfl | rfl | rfl | rfl | rfl | rfl | rfl | rfl | rfl | rfl | rfl | rfl | rfl | rfl | rfl | rfl | rfl | rfl | rfl | rfl | rfl | rfl
  all_goals
   clear h
   go_enter Tryz.func213,Tryz.ntmps213
   go_wp2;go_ret;exact ⟨rfl,rfl⟩
 ·have hu:z0x op=0:=by unfold z0x;repeat rw [if_neg (by omega)]
  rw [hu];clear hu
  go_enter Tryz.func213,Tryz.ntmps213
  go_wp2
  all_goals
   go_ret;exact ⟨rfl,rfl⟩
def inS (s:ByteArray) (c:Int):Bool:=s.data.toList.any fun b=>decide ((b.toNat:Int)=c)
theorem zpu {s:ByteArray} {c:Int} {k:Nat} (hk:k<s.size) (h:((s[k]'hk).toNat:Int)=c):inS s c=true:=by
 unfold inS;rw [List.any_eq_true];exact ⟨s[k],by rw [ByteArray.getElem_eq_getElem_data];exact Array.getElem_mem_toList ..,by simpa using h⟩
theorem zp7 {s:ByteArray} {c:Int} (h:∀ k (hk:k<s.size),((s[k]'hk).toNat:Int)≠c):inS s c=false:=by
 unfold inS;rw [List.any_eq_false];intro b hb;obtain ⟨k,hk,rfl⟩:=List.getElem_of_mem hb;have e:=h k (show k<s.data.size by rw [← Array.length_toList];exact hk);rw [ByteArray.getElem_eq_getElem_data] at e;rw [Array.getElem_toList];exact fun h2=>e (of_decide_eq_true h2)
theorem zpy (s:ByteArray) (hs:s.size≤100) (c:Int) (w:World):Calls Tryz.prog 214 #[.string s,.int .u8 c] w fun e w'=>e=.returned (.bool (inS s c))∧w=w':=by
 go_enter Tryz.func214,Tryz.ntmps214
 go_wp2_with fail
 go_loopw [5] (fun i wr=>∃ k:Nat,k≤s.size∧i=.int .i64 k∧wr=w∧∀ j (hj:j<s.size),j<k→((s[j]'hj).toNat:Int)≠c) (fun i _=>s.size-(intOf i).toNat)
 case atStart=>exact ⟨0,Nat.zero_le _,rfl,by first | rfl | trivial,fun _ _ h=>absurd h (by omega)⟩
 case round =>
  obtain ⟨k,hk,rfl,rfl,hb⟩:=hrel;have Hb:=hid hb;clear hb
  by_cases hlt:k<s.size
  ·have d1:decide ((k:Int)<(s.size:Int))=true:=by simp;omega
   have i1:(k:Int)<s.size:=by omega
   by_cases e:((s[k]'hlt).toNat:Int)=c
   ·have hx:=hid (zpu hlt e);go_wp2_with fail
    all_goals
     go_ret;exact ⟨by rw [hx.out];rfl,by first | rfl | trivial⟩
   ·have hb2:=hid (show ∀ j (hj:j<s.size),j<k+1→((s[j]'hj).toNat:Int)≠c from fun j hj h=>by
     rcases Nat.lt_or_ge j k with h1 | h1
     ·exact Hb.out j hj h1
     ·obtain rfl:j=k:=by omega
      exact e)
    go_wp2_with fail;go_roundw
    case rel=>exact ⟨k+1,by omega,by go_num,by first | rfl | trivial,hb2.out⟩
    case measure=>simp [intOf];omega
  ·have hx:=hid (zp7 fun j hj=>Hb.out j hj (by omega));have d1:decide ((k:Int)<(s.size:Int))=false:=by simp;omega
   have i1:¬ (k:Int)<s.size:=by omega
   go_wp2_with fail
   all_goals
    go_ret;exact ⟨by rw [hx.out];rfl,by first | rfl | trivial⟩
theorem zoO (u:Nat) (h:u=17∨u=3∨u=19∨u=16∨u=1∨u=31∨u=21∨u=29∨u=5∨u=7∨u=0):(zp5 u).size≤100∧inS (zp5 u) 65=u.testBit 0∧inS (zp5 u) 66=u.testBit 1∧inS (zp5 u) 67=u.testBit 2∧inS (zp5 u) 68=u.testBit 3∧inS (zp5 u) 75=u.testBit 4:=by
 rcases h with rfl | rfl | rfl | rfl | rfl | rfl | rfl | rfl | rfl | rfl | rfl<;>decide
end Go.Proofs.YtlbjjoeocdimfaaGreatDoor
