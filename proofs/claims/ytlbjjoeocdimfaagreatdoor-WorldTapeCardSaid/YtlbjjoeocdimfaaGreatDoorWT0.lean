/-
  Parts of the proof: Open LockO CfOpen ScOpen KernDv WorldQ Great WorldH WorldB WorldK WorldM.
-/
import Derived.Test.YtlbjjoeocdimfaaGreatDoorRows
import Derived.ProofKit
import Derived.OpenShut
import Derived.ShutString
import Derived.ChangeOld
import Derived.Below
import Derived.Deep.Slices
import Derived.Test.YtlbjjoeocdimfaaGreatDoorKD0
import Derived.Test.YtlbjjoeocdimfaaGreatDoorKD2
import Derived.Test.YtlbjjoeocdimfaaGreatDoorKD3
import Derived.Test.YtlbjjoeocdimfaaGreatDoorKD5
import Derived.Test.YtlbjjoeocdimfaaGreatDoorKD7
import Derived.Test.YtlbjjoeocdimfaaGreatDoorKD8
import Derived.Test.YtlbjjoeocdimfaaGreatDoorKD9
import Derived.Test.YtlbjjoeocdimfaaGreatDoorKD13
import Derived.Test.YtlbjjoeocdimfaaGreatDoorKD18
set_option linter.unusedVariables false
set_option linter.unusedSimpArgs false
set_option maxHeartbeats 32000000
set_option maxRecDepth 100000
namespace Go.Proofs.YtlbjjoeocdimfaaGreatDoor
open Go.RowKit Go.Sx Go.ChangeShapes Go.WideShapes Go.ChangeAt
open Go.ChangeMaps (open_string shut_string)
theorem z7f:laidOutB Tryz.prog=true:=by kernel_rfl
theorem z6F {w:World} {a:Addr} {u:Value} (h:w.cell? (a.add 0)=some u):∃ b off,a=⟨b,off,none⟩:=by
 have h:w.cell? a=some u:=by simpa [Addr.add] using h
 obtain ⟨b,off,s⟩:=a
 cases s with
 | none=>exact ⟨b,off,rfl⟩
 | some s =>
  unfold World.cell? at h
  split at h
  ·simp at h
  ·cases h
theorem z7t {κ:IntKind} {w:World} {a:Addr} {len cap:Nat} {zs:List Int} (hl:len≤cap) (hm:cap≤maxLen) (hz:zs.length=cap) (hc:∀ i,i<zs.length→w.cell? (a.add i)=some (.int κ (zs.getD i 0))) :
  RdN κ w (.slice (some a) len cap) (zs.take len):=by
 have hlen:(zs.take len).length=len:=by simp;omega
 by_cases h0:len=0
 ·subst h0;exact ⟨some a,cap,0,0,by simp,by simp,hm,fun h=>absurd (by simp) h,fun j hj=>absurd hj (by simp)⟩
 ·obtain ⟨b,off,rfl⟩:=z6F (hc 0 (by omega));refine ⟨_,cap,b,off,by rw [hlen],by omega,hm,fun _=>rfl,fun j hj=>?_⟩;have:=hc j (by omega);rw [Addr.add_lit] at this;rw [this]
  congr 2
  rw [hlen] at hj;simp [List.getD,hj]
section
variable {H:Type} {enc:TypeId×Value→H} {P:Program} {W:World} {base:Nat}
theorem z2p {t:TypeId} {v:Value} {d:DataW H} {p:List MemPlace} (h:DataW.Trod enc P W 0 (fun _=>true) true t v d p):∀ x∈p,x.block<W.heap.size:=by
 obtain ⟨m,hm⟩:=h;exact DataW.trod_lt m _ _ _ hm
end
end Go.Proofs.YtlbjjoeocdimfaaGreatDoor
namespace Go.Proofs.YtlbjjoeocdimfaaGreatDoor
open Go.RowKit Go.Sx Go.Lk
def s0:Lk:=⟨[5,3,1],[5,3,1],[-1, -1, -1],[255,255],[[],[]]⟩
end Go.Proofs.YtlbjjoeocdimfaaGreatDoor
namespace Go.Proofs.YtlbjjoeocdimfaaGreatDoor
open Go.RowKit Go.Sx Go.Dl Go.Lk Go.Rq Go.Au Go.ChangeShapes Go.WideShapes Go.ChangeAt
set_option linter.constructorNameAsVariable false
theorem zbk {n:Int} (h:(Lit.int .u32 n).wf=true):zG n:=by
 have h1:(decide ((0:Int)≤n) && decide (n≤4294967295))=true:=h;simp only [Bool.and_eq_true,decide_eq_true_eq] at h1;exact ⟨by omega,by omega⟩
theorem ziS {n:Int} (h:(Lit.int .u64 n).wf=true):0≤n∧n<18446744073709551616:=by
 have h1:(decide ((0:Int)≤n) && decide (n≤18446744073709551615))=true:=h;simp only [Bool.and_eq_true,decide_eq_true_eq] at h1;omega
section
variable {H:Type} {enc:TypeId×Value→H} {P:Program} {W:World}
theorem z3X {t:TypeId} {fs:Array Field} {fuel:Nat} {cs:List Value} {x:DataW H×List MemPlace} (ht:P.underlying t=some (.struct fs)) (h:DataW.trod enc P W 0 (fun _=>true) true fuel t cs=some x) :
  cs.length=P.cellsOf t∧∀ (i:Nat) (f:Field),fs[i]?=some f→∃ n y,DataW.trod enc P W 0 (fun _=>true) true n f.type ((cs.drop f.offset).take (P.cellsOf f.type))=some y:=by
 obtain ⟨xs,n,_,_,hl,hx,hf⟩:=DataW.trod_struct ht h;refine ⟨hl,fun i f e=>⟨n,xs[i]'(by have:=(Array.getElem?_eq_some_iff.1 e).1;omega),?_⟩⟩;rw [hf i f e,List.getElem?_eq_getElem]
theorem znK {cs:List Value} {o:Nat} (h:o<cs.length):(cs.drop o).take 1=[cs[o]]:=by
 rw [List.drop_eq_getElem_cons h];rfl
theorem z3A {t:TypeId} {fs:Array Field} {fuel:Nat} {cs:List Value} {x:DataW H×List MemPlace} (ht:P.underlying t=some (.struct fs)) (h:DataW.trod enc P W 0 (fun _=>true) true fuel t cs=some x)
  {T:TypeId} {i o:Nat} (ho:o<P.cellsOf t) (hg:∃ g:Field,fs[i]?=some g∧g.offset=o∧g.type=T∧P.cellsOf T=1):∃ v n y,cs[o]?=some v∧DataW.trod enc P W 0 (fun _=>true) true n T [v]=some y:=by
 obtain ⟨hl,hf⟩:=z3X ht h;obtain ⟨g,h1,rfl,rfl,h4⟩:=hg;obtain ⟨n,y,h5⟩:=hf i g h1;have hlt:g.offset<cs.length:=by omega
 rw [h4,znK hlt] at h5;exact ⟨_,n,y,List.getElem?_eq_getElem hlt,h5⟩
theorem z0C {t:TypeId} {fs:Array Field} {fuel:Nat} {cs:List Value} {x:DataW H×List MemPlace} (ht:P.underlying t=some (.struct fs)) (h:DataW.trod enc P W 0 (fun _=>true) true fuel t cs=some x)
  {T:TypeId} {κ:IntKind} {i o:Nat} (ho:o<P.cellsOf t) (hT:P.underlying T=some (.int κ)) (hg:∃ g:Field,fs[i]?=some g∧g.offset=o∧g.type=T∧P.cellsOf T=1):∃ m:Int,cs[o]?=some (.int κ m)∧(Lit.int κ m).wf=true:=by
 obtain ⟨v,n,y,h1,h2⟩:=z3A ht h ho hg;obtain ⟨m,e,_,hw⟩:=DataW.trod_int hT h2;simp only [List.cons.injEq,and_true] at e;exact ⟨m,by rw [h1,e],hw⟩
theorem z7Q {t e:TypeId} {κ:IntKind} {n:Nat} {cs:List Value} {x:DataW H×List MemPlace} (ht:P.underlying t=some (.slice e)) (he:P.underlying e=some (.int κ)) (hc:P.cellsOf e=1)
  (h:DataW.trod enc P W 0 (fun _=>true) true n t cs=some x):∃ v l,cs=[v]∧RdN κ W v l∧∀ n∈l,(Lit.int κ n).wf=true:=by
 rcases open_ints ht he hc h with ⟨hcs,_⟩ | ⟨x,l,c,zs,hcs,_,hl,hm,hz,_,hcell,hwz⟩
 ·exact ⟨_,[],hcs,⟨none,0,0,0,rfl,Nat.le_refl _,Nat.zero_le _,fun h=>absurd rfl h,fun j hj=>absurd hj (Nat.not_lt_zero _)⟩,fun n hn=>(by cases hn)⟩
 ·exact ⟨_,_,hcs,z7t hl hm (by simpa using hz) hcell,fun n hn=>hwz n (List.mem_of_mem_take hn)⟩
theorem z7R {α:Type} {sz:Nat} [E:Enc α sz] {t e:TypeId} {fuel:Nat} {cs:List Value} {x:DataW H×List MemPlace} (ht:P.underlying t=some (.slice e)) (ce:P.cellsOf e=sz) {G:α→Prop}
  (he:∀ n cs x,DataW.trod enc P W 0 (fun _=>true) true n e cs=some x→∃ a:α,cs=E.enc a∧G a)
  (h:DataW.trod enc P W 0 (fun _=>true) true fuel t cs=some x):∃ v l,cs=[v]∧RdR W v l∧∀ a∈l,G a:=by
 rcases Go.Deep.open_slice ht h with ⟨hcs,_⟩ | ⟨a,len,cap,m,n,D,Pl,hcs,_,hl,hm,hmm,_,hx⟩
 ·exact ⟨_,[],hcs,z5D W,fun a h=>by cases h⟩
 ·simp at hmm;subst hmm;have each:∀ i,i<m→∃ y:α,G y∧∀ c u,(E.enc y)[c]?=some u→W.cell? (a.add (i*sz+c))=some u:=fun i hi=>by
   obtain ⟨cs',h1,h2⟩:=hx i hi;obtain ⟨_,hlen,hcell⟩:=World.cells?_some h1;obtain ⟨y,rfl,hG⟩:=he _ _ _ h2;refine ⟨y,hG,fun c u hu=>?_⟩;have hc:=hcell c (by rw [ce,← E.len y];exact (List.getElem?_eq_some_iff.1 hu).1);rw [Go.Deep.add_add,ce] at hc;rw [hc];exact hu
  haveI:Inhabited α:=⟨E.dft⟩;obtain ⟨f,hf⟩:=Go.Deep.choose_lt each;have hsz:=E.pos;refine ⟨_,(List.range len).map f,hcs,?_,fun y hy=>?_⟩
  ·by_cases h0:0<len
   ·have hpos:0<(E.enc (f 0)).length:=by rw [E.len];exact hsz
    obtain ⟨b,off,rfl⟩:=z6F (by simpa using (hf 0 (by omega)).2 0 _ (List.getElem?_eq_getElem hpos));refine ⟨_,m,b,off,by simp,by simpa using hl,hm,fun _=>rfl,fun j u hj=>?_⟩;have hjl:=(List.getElem?_eq_some_iff.1 hj).1;rw [zJ,List.length_map,List.length_range] at hjl;have e1:j=j / sz*sz+j%sz:=by rw [Nat.mul_comm];exact (Nat.div_add_mod j sz).symm
    have hk:j / sz<len:=(Nat.div_lt_iff_lt_mul hsz).2 hjl;have hc:j%sz<sz:=Nat.mod_lt _ hsz;rw [e1] at hj;rw [z0Y (by simpa using hk) hc] at hj;have hg:((List.range len).map f).getD (j / sz) E.dft=f (j / sz):=by simp [List.getD,hk]
    rw [hg] at hj;have:=(hf (j / sz) (by omega)).2 _ u hj;rw [← e1,Addr.add_lit] at this;exact this
   ·have:len=0:=by omega
    subst this;exact ⟨some a,m,0,0,rfl,by simp,hm,fun h=>absurd (by simp) h,fun j u hj=>by simp [cellsOf] at hj⟩
  ·rw [List.mem_map] at hy;obtain ⟨i,hi,rfl⟩:=hy;exact (hf i (by have:=List.mem_range.1 hi;omega)).1
end
section
variable {H:Type} {enc:TypeId×Value→H} {W:World}
theorem cs6 {cs:List Value} {a b c d e f:Value} (hl:cs.length=6) (h0:cs[0]?=some a) (h1:cs[1]?=some b) (h2:cs[2]?=some c) (h3:cs[3]?=some d) (h4:cs[4]?=some e) (h5:cs[5]?=some f):cs=[a,b,c,d,e,f]:=by
 match cs,hl with
 | [_,_,_,_,_,_],_=>simp_all
theorem cs2 {cs:List Value} {a b:Value} (hl:cs.length=2) (h0:cs[0]?=some a) (h1:cs[1]?=some b):cs=[a,b]:=by
 match cs,hl with
 | [_,_],_=>simp_all
theorem zo5 {cs:List Value} {a b c d e f g h i j k l:Value} (hl:cs.length=12) (h0:cs[0]?=some a) (h1:cs[1]?=some b) (h2:cs[2]?=some c) (h3:cs[3]?=some d) (h4:cs[4]?=some e) (h5:cs[5]?=some f)
  (h6:cs[6]?=some g) (h7:cs[7]?=some h) (h8:cs[8]?=some i) (h9:cs[9]?=some j) (h10:cs[10]?=some k) (h11:cs[11]?=some l):cs=[a,b,c,d,e,f,g,h,i,j,k,l]:=by
 match cs,hl with
 | [_,_,_,_,_,_,_,_,_,_,_,_],_=>simp_all
abbrev Trd (enc:TypeId×Value→H) (W:World) (n:Nat) (t:TypeId) (cs:List Value) (x:DataW H×List MemPlace):Prop:=DataW.trod enc Tryz.prog W 0 (fun _=>true) true n t cs=some x
theorem ziQ (n:Nat) (cs:List Value) (x:DataW H×List MemPlace) (h:Trd enc W n 104 cs x):∃ i:Ins,cs=za3.enc i∧zG i.k:=by
 have hu:=Tryz.underlying104;have hs:Tryz.prog.cellsOf 104=6:=by kernel_rfl
 have hi:Tryz.prog.underlying 3=some (.int .i64):=Tryz.underlying3;have hk:Tryz.prog.underlying 25=some (.int .u32):=Tryz.underlying25;have ci:Tryz.prog.cellsOf 3=1:=by kernel_rfl
 have ck:Tryz.prog.cellsOf 25=1:=by kernel_rfl
 obtain ⟨m0,a0,_⟩:=z0C hu h (i:=0) (o:=0) (by rw [hs];decide) hi ⟨_,rfl,rfl,rfl,ci⟩;obtain ⟨m1,a1,_⟩:=z0C hu h (i:=1) (o:=1) (by rw [hs];decide) hi ⟨_,rfl,rfl,rfl,ci⟩;obtain ⟨m2,a2,_⟩:=z0C hu h (i:=2) (o:=2) (by rw [hs];decide) hi ⟨_,rfl,rfl,rfl,ci⟩;obtain ⟨m3,a3,_⟩:=z0C hu h (i:=3) (o:=3) (by rw [hs];decide) hi ⟨_,rfl,rfl,rfl,ci⟩;obtain ⟨m4,a4,_⟩:=z0C hu h (i:=4) (o:=4) (by rw [hs];decide) hi ⟨_,rfl,rfl,rfl,ci⟩;obtain ⟨m5,a5,w5⟩:=z0C hu h (i:=5) (o:=5) (by rw [hs];decide) hk ⟨_,rfl,rfl,rfl,ck⟩;exact ⟨⟨m0,m1,m2,m3,m4,m5⟩,cs6 ((z3X hu h).1.trans hs) a0 a1 a2 a3 a4 a5,zbk w5⟩
theorem zbh {n:Nat} {v:Value} {x:DataW H×List MemPlace} (h:Trd enc W n 105 [v] x):∃ l:List Ins,RdR W v l∧∀ i∈l,zG i.k:=by
 obtain ⟨v',l,e,hr,hG⟩:=z7R (E:=za3) Tryz.underlying105 (by kernel_rfl) ziQ h;simp only [List.cons.injEq,and_true] at e;subst e;exact ⟨l,hr,hG⟩
theorem zdj {α:Type} {sz:Nat} [E:Enc α sz] {w:World} {v:Value} {l:List α} (h:RdR w v l):∃ a n c,v=.slice a n c:=by
 obtain ⟨a,cap,b,off,e,_⟩:=h;exact ⟨_,_,_,e⟩
theorem zgK (n:Nat) (cs:List Value) (x:DataW H×List MemPlace) (h:Trd enc W n 107 cs x):∃ t:Tv,cs=z8Q.enc t∧∃ l:List Ins,RdR W t.cv l∧∀ i∈l,zG i.k:=by
 have hu:=Tryz.underlying107;have hs:Tryz.prog.cellsOf 107=6:=by kernel_rfl
 have hi:Tryz.prog.underlying 3=some (.int .i64):=Tryz.underlying3;have ci:Tryz.prog.cellsOf 3=1:=by kernel_rfl
 have ck:Tryz.prog.cellsOf 105=1:=by kernel_rfl
 obtain ⟨m0,a0,_⟩:=z0C hu h (i:=0) (o:=0) (by rw [hs];decide) hi ⟨_,rfl,rfl,rfl,ci⟩;obtain ⟨m1,a1,_⟩:=z0C hu h (i:=1) (o:=1) (by rw [hs];decide) hi ⟨_,rfl,rfl,rfl,ci⟩;obtain ⟨m2,a2,_⟩:=z0C hu h (i:=2) (o:=2) (by rw [hs];decide) hi ⟨_,rfl,rfl,rfl,ci⟩;obtain ⟨m3,a3,_⟩:=z0C hu h (i:=3) (o:=3) (by rw [hs];decide) hi ⟨_,rfl,rfl,rfl,ci⟩;obtain ⟨m4,a4,_⟩:=z0C hu h (i:=4) (o:=4) (by rw [hs];decide) hi ⟨_,rfl,rfl,rfl,ci⟩;obtain ⟨v,n',y,a5,h5⟩:=z3A hu h (i:=5) (o:=5) (by rw [hs];decide) ⟨_,rfl,rfl,rfl,ck⟩;obtain ⟨l,hr,hk⟩:=zbh h5;obtain ⟨ca,cn,cc,rfl⟩:=zdj hr;exact ⟨⟨m0,m1,m2,m3,m4,ca,cn,cc⟩,cs6 ((z3X hu h).1.trans hs) a0 a1 a2 a3 a4 a5,l,hr,hk⟩
theorem zgJ (n:Nat) (cs:List Value) (x:DataW H×List MemPlace) (h:Trd enc W n 112 cs x):∃ t:Lv,cs=z8P.enc t∧∃ l:List Ins,RdR W t.cv l∧∀ i∈l,zG i.k:=by
 have hu:=Tryz.underlying112;have hs:Tryz.prog.cellsOf 112=2:=by kernel_rfl
 have hi:Tryz.prog.underlying 3=some (.int .i64):=Tryz.underlying3;have ci:Tryz.prog.cellsOf 3=1:=by kernel_rfl
 have ck:Tryz.prog.cellsOf 105=1:=by kernel_rfl
 obtain ⟨m0,a0,_⟩:=z0C hu h (i:=0) (o:=0) (by rw [hs];decide) hi ⟨_,rfl,rfl,rfl,ci⟩;obtain ⟨v,n',y,a5,h5⟩:=z3A hu h (i:=1) (o:=1) (by rw [hs];decide) ⟨_,rfl,rfl,rfl,ck⟩;obtain ⟨l,hr,hk⟩:=zbh h5;obtain ⟨ca,cn,cc,rfl⟩:=zdj hr;exact ⟨⟨m0,ca,cn,cc⟩,cs2 ((z3X hu h).1.trans hs) a0 a5,l,hr,hk⟩
theorem zhX {l:List Tv} (h:∀ t∈l, ∃ k:List Ins,RdR W t.cv k∧∀ i∈k,zG i.k):∃ ts:List Tc,l.length=ts.length∧∀ t,t<ts.length→IsT W (l.getD t tv0) (ts.getD t tc0)∧∀ i∈(ts.getD t tc0).code,zG i.k:=by
 induction l with
 | nil=>exact ⟨[],rfl,fun t ht=>absurd ht (by simp)⟩
 | cons a l ih =>
  obtain ⟨ts,e,hi⟩:=ih fun t ht=>h t (List.mem_cons_of_mem _ ht);obtain ⟨k,hr,hk⟩:=h a (List.mem_cons_self ..);refine ⟨⟨a.lev,a.off,a.per,a.dl,a.mem,k⟩::ts,by simp [e],fun t ht=>?_⟩
  cases t with
  | zero=>exact ⟨⟨rfl,rfl,rfl,rfl,rfl,hr⟩,hk⟩
  | succ t =>
   have:=hi t (by simpa using ht)
   simpa [List.getD] using this
theorem zhW {l:List Lv} (h:∀ t∈l, ∃ k:List Ins,RdR W t.cv k∧∀ i∈k,zG i.k):∃ ts:List Lc,l.length=ts.length∧∀ t,t<ts.length→IsL W (l.getD t lv0) (ts.getD t lc0)∧∀ i∈(ts.getD t lc0).code,zG i.k:=by
 induction l with
 | nil=>exact ⟨[],rfl,fun t ht=>absurd ht (by simp)⟩
 | cons a l ih =>
  obtain ⟨ts,e,hi⟩:=ih fun t ht=>h t (List.mem_cons_of_mem _ ht);obtain ⟨k,hr,hk⟩:=h a (List.mem_cons_self ..);refine ⟨⟨a.mem,k⟩::ts,by simp [e],fun t ht=>?_⟩
  cases t with
  | zero=>exact ⟨⟨rfl,hr⟩,hk⟩
  | succ t =>
   have:=hi t (by simpa using ht)
   simpa [List.getD] using this
theorem z4q {base:Nat} {v:Value} {d:DataW H} {p:List MemPlace} (hok:Value.okWide Tryz.prog W .any base 28 v) (h:DataW.Trod enc Tryz.prog W 0 (fun _=>true) true 28 v d p) :
  ∃ c:Cf,z8I W v c∧z6B c:=by
 have hu:=Tryz.underlying28;have hs:Tryz.prog.cellsOf 28=12:=by kernel_rfl
 have hi:Tryz.prog.underlying 3=some (.int .i64):=Tryz.underlying3;have hk:Tryz.prog.underlying 25=some (.int .u32):=Tryz.underlying25;have hq:Tryz.prog.underlying 26=some (.int .u64):=Tryz.underlying26;have ci:Tryz.prog.cellsOf 3=1:=by kernel_rfl
 have ck:Tryz.prog.cellsOf 25=1:=by kernel_rfl
 have cq:Tryz.prog.cellsOf 26=1:=by kernel_rfl
 have cn:Tryz.prog.cellsOf 24=1:=by kernel_rfl
 have ct:Tryz.prog.cellsOf 22=1:=by kernel_rfl
 have cl:Tryz.prog.cellsOf 23=1:=by kernel_rfl
 obtain ⟨cs,rfl,hsz⟩:=okWide_struct hu hok;obtain ⟨fuel,h⟩:=h;have h:DataW.trod enc Tryz.prog W 0 (fun _=>true) true fuel 28 cs.toList=some (d,p):=h;obtain ⟨v0,n0,y0,a0,h0⟩:=z3A hu h (i:=0) (o:=0) (by rw [hs];decide) ⟨_,rfl,rfl,rfl,ct⟩;obtain ⟨v1,n1,y1,a1,h1⟩:=z3A hu h (i:=1) (o:=1) (by rw [hs];decide) ⟨_,rfl,rfl,rfl,cl⟩;obtain ⟨m2,a2,_⟩:=z0C hu h (i:=2) (o:=2) (by rw [hs];decide) hi ⟨_,rfl,rfl,rfl,ci⟩;obtain ⟨v3,n3,y3,a3,h3⟩:=z3A hu h (i:=3) (o:=3) (by rw [hs];decide) ⟨_,rfl,rfl,rfl,cn⟩;obtain ⟨v4,n4,y4,a4,h4⟩:=z3A hu h (i:=4) (o:=4) (by rw [hs];decide) ⟨_,rfl,rfl,rfl,cn⟩;obtain ⟨v5,n5,y5,a5,h5⟩:=z3A hu h (i:=5) (o:=5) (by rw [hs];decide) ⟨_,rfl,rfl,rfl,cn⟩;obtain ⟨m6,a6,_⟩:=z0C hu h (i:=6) (o:=6) (by rw [hs];decide) hi ⟨_,rfl,rfl,rfl,ci⟩;obtain ⟨m7,a7,w7⟩:=z0C hu h (i:=7) (o:=7) (by rw [hs];decide) hk ⟨_,rfl,rfl,rfl,ck⟩;obtain ⟨m8,a8,w8⟩:=z0C hu h (i:=8) (o:=8) (by rw [hs];decide) hk ⟨_,rfl,rfl,rfl,ck⟩;obtain ⟨m9,a9,_⟩:=z0C hu h (i:=9) (o:=9) (by rw [hs];decide) hi ⟨_,rfl,rfl,rfl,ci⟩;obtain ⟨m10,a10,w10⟩:=z0C hu h (i:=10) (o:=10) (by rw [hs];decide) hq ⟨_,rfl,rfl,rfl,cq⟩;obtain ⟨m11,a11,w11⟩:=z0C hu h (i:=11) (o:=11) (by rw [hs];decide) hq ⟨_,rfl,rfl,rfl,cq⟩;have hcs:=zo5 ((z3X hu h).1.trans hs) a0 a1 a2 a3 a4 a5 a6 a7 a8 a9 a10 a11;obtain ⟨_,T,e0,hT,hTk⟩:=z7R (E:=z8Q) Tryz.underlying22 (by kernel_rfl) zgK h0;obtain ⟨_,L,e1,hL,hLk⟩:=z7R (E:=z8P) Tryz.underlying23 (by kernel_rfl) zgJ h1;obtain ⟨_,S,e3,hS,_⟩:=z7Q Tryz.underlying24 hi ci h3;obtain ⟨_,Q,e4,hQ,_⟩:=z7Q Tryz.underlying24 hi ci h4;obtain ⟨_,M,e5,hM,_⟩:=z7Q Tryz.underlying24 hi ci h5;simp only [List.cons.injEq,and_true] at e0 e1 e3 e4 e5;subst e0;subst e1;subst e3;subst e4;subst e5;obtain ⟨ts,lt,ht⟩:=zhX hTk;obtain ⟨ls,ll,hl⟩:=zhW hLk;have r7:=zbk w7;have r8:=zbk w8;have g7:((m7.toNat:Nat):Int)=m7:=Int.toNat_of_nonneg r7.1;have g8:((m8.toNat:Nat):Int)=m8:=Int.toNat_of_nonneg r8.1;refine ⟨⟨ts,ls,m2,S,Q,M,m6,m7.toNat,m8.toNat,m9,m10,m11⟩,⟨_,_,_,_,_,?_,⟨T,hT,lt,fun t h=>(ht t h).1⟩,⟨L,hL,ll,fun t h=>(hl t h).1⟩,hS,hQ,hM⟩,⟨fun t h=>(ht t h).2,fun t h=>(hl t h).2,?_,?_,ziS w10,ziS w11⟩⟩
 ·rw [← Array.toArray_toList (xs:=cs),hcs];show Value.agg _=Value.agg _;rw [g7,g8]
 ·have:=r7.2;show m7.toNat<_;omega
 ·have:=r8.2;show m8.toNat<_;omega
end
section
variable {H:Type} {enc:TypeId×Value→H} {W:World}
theorem cs3 {cs:List Value} {a b c:Value} (hl:cs.length=3) (h0:cs[0]?=some a) (h1:cs[1]?=some b) (h2:cs[2]?=some c):cs=[a,b,c]:=by
 match cs,hl with
 | [_,_,_],_=>simp_all
theorem zrv (n:Nat) (cs:List Value) (x:DataW H×List MemPlace) (h:Trd enc W n 86 cs x):∃ i:Ar,cs=zqj.enc i∧True:=by
 have hu:=Tryz.underlying86;have hs:Tryz.prog.cellsOf 86=2:=by kernel_rfl
 have hi:Tryz.prog.underlying 3=some (.int .i64):=Tryz.underlying3;have ci:Tryz.prog.cellsOf 3=1:=by kernel_rfl
 obtain ⟨m0,a0,_⟩:=z0C hu h (i:=0) (o:=0) (by rw [hs];decide) hi ⟨_,rfl,rfl,rfl,ci⟩;obtain ⟨m1,a1,_⟩:=z0C hu h (i:=1) (o:=1) (by rw [hs];decide) hi ⟨_,rfl,rfl,rfl,ci⟩;exact ⟨⟨m0,m1⟩,cs2 ((z3X hu h).1.trans hs) a0 a1,trivial⟩
theorem zrr {base:Nat} {v:Value} {d:DataW H} {p:List MemPlace} (hok:Value.okWide Tryz.prog W .any base 81 v) (h:DataW.Trod enc Tryz.prog W 0 (fun _=>true) true 81 v d p) :
  ∃ s:Sc,zqQ W v s∧∀ x∈s.tape,zG x:=by
 have hu:=Tryz.underlying81;have hs:Tryz.prog.cellsOf 81=3:=by kernel_rfl
 have hi:Tryz.prog.underlying 3=some (.int .i64):=Tryz.underlying3;have hk:Tryz.prog.underlying 25=some (.int .u32):=Tryz.underlying25;have ci:Tryz.prog.cellsOf 3=1:=by kernel_rfl
 have ck:Tryz.prog.cellsOf 25=1:=by kernel_rfl
 have cn:Tryz.prog.cellsOf 43=1:=by kernel_rfl
 have ct:Tryz.prog.cellsOf 79=1:=by kernel_rfl
 obtain ⟨cs,rfl,hsz⟩:=okWide_struct hu hok;obtain ⟨fuel,h⟩:=h;have h:DataW.trod enc Tryz.prog W 0 (fun _=>true) true fuel 81 cs.toList=some (d,p):=h;obtain ⟨v0,n0,y0,a0,h0⟩:=z3A hu h (i:=0) (o:=0) (by rw [hs];decide) ⟨_,rfl,rfl,rfl,ct⟩;obtain ⟨v1,n1,y1,a1,h1⟩:=z3A hu h (i:=1) (o:=1) (by rw [hs];decide) ⟨_,rfl,rfl,rfl,cn⟩;obtain ⟨m2,a2,_⟩:=z0C hu h (i:=2) (o:=2) (by rw [hs];decide) hi ⟨_,rfl,rfl,rfl,ci⟩;have hcs:=cs3 ((z3X hu h).1.trans hs) a0 a1 a2;obtain ⟨_,A,e0,hA,_⟩:=z7R (E:=zqj) Tryz.underlying79 (by kernel_rfl) zrv h0;obtain ⟨_,T,e1,hT,hW⟩:=z7Q Tryz.underlying43 hk ck h1;simp only [List.cons.injEq,and_true] at e0 e1;subst e0;subst e1;obtain ⟨aa,ac,ab,ao,ea,_⟩:=id hA;obtain ⟨ta,tc,tb,tq,et,_⟩:=id hT;subst ea;subst et;refine ⟨⟨m2,A,T⟩,⟨aa,ac,ta,tc,?_,hA,hT⟩,fun x hx=>zbk (hW x hx)⟩;rw [← Array.toArray_toList (xs:=cs),hcs]
end
end Go.Proofs.YtlbjjoeocdimfaaGreatDoor
namespace Go.Proofs.YtlbjjoeocdimfaaGreatDoor
open Go.RowKit Go.Sx Go.Dl Go.Lk Go.Rq Go.Au
section
variable {c:Cf} {K K1 K2:Kn}
theorem zrG (hp:z1l c.filter 2=true) (K:Kn) (who:Nat) (i:Ins) (value:Int):Dv value K ((({ K with reads:=(K.reads+1)%18446744073709551616 }:Kn).put who i.a value).tell c 2 i.k who value):=by
 have e1:(({ K with reads:=(K.reads+1)%18446744073709551616 }:Kn).put who i.a value).told=K.told:=zQ _ _;have e2:(({ K with reads:=(K.reads+1)%18446744073709551616 }:Kn).put who i.a value).reads=(K.reads+1)%18446744073709551616:=by unfold Kn.put;split<;>rfl
 refine .inr ⟨⟨⟨2,(({ K with reads:=(K.reads+1)%18446744073709551616 }:Kn).put who i.a value).cycle,(({ K with reads:=(K.reads+1)%18446744073709551616 }:Kn).put who i.a value).count,i.k.toNat,(who:Int).toNat,value.toNat⟩,rfl,rfl,?_⟩,by rw [zer,e2]⟩;unfold Kn.tell;rw [if_pos hp];show zqh (_++[_])=_;rw [zqi,e1]
 rfl
theorem zqL (hp:z1l c.filter 2=true) (K:Kn) (who:Nat) (i:Ins) (value:Int):Dv value K (K.shared c who i value):=by
 have r:=Nd.refl K;unfold Kn.shared
 split
 ·exact zrG hp K who i value
 refine .inl ?_
 split
 ·exact r.tell 20 _ _ _ (by decide)
 split
 ·exact r.set rfl rfl
 split
 ·exact r.put _ _ _
 split
 ·exact r.put _ _ _
 split
 ·split
  ·exact r.refuse _ _ _
  split
  ·exact r.refuse _ _ _
  ·exact Nd.put (r.post _ _) _ _ _
 split
 ·split
  ·exact r.refuse _ _ _
  split
  ·exact r.send _ _
  ·exact r.recv _ _
 split
 ·exact r.timer _ _
 ·exact r
theorem zqK (hp:z1l c.filter 2=true) (K:Kn) (t:Nat) (i:Ins) (value:Int):Dv value K (K.serveTask c t i value):=by
 have r:=Nd.refl K;unfold Kn.serveTask
 split
 ·exact .inl (r.lock _ _)
 split
 ·exact .inl (r.unlock _ _)
 split
 ·exact .inl (r.await _ _)
 split
 ·exact .inl (r.sleep _ _)
 split
 ·exact .inl (r.set rfl rfl)
 split
 ·exact .inl (r.next _)
 ·exact zqL hp K t i value
theorem zs8 (hp:z1l c.filter 2=true) (K:Kn) (t:Nat) (value:Int):Dv value K (K.go c t value):=by
 have r:=Nd.refl K;unfold Kn.go;dsimp only
 split
 ·split
  ·exact .inl (Nd.putCx (r.cost _) _ _)
  ·exact .inl (Nd.gone (Nd.tell (Nd.putCx (r.cost _) _ _) 21 _ _ _ (by decide)) _ _)
 split
 ·exact .inl (Nd.gone (Nd.tell (Nd.setT (r.cost _) _ _) 22 _ _ _ (by decide)) _ _)
 ·exact Dv.pre (Nd.setT (r.cost _) _ _) (zqK hp _ _ _ _)
theorem zqR (hp:z1l c.filter 2=true) (K:Kn) (value:Int):Dv value K (K.dispatch c value):=by
 have r:=Nd.refl K;have r2:∀ t:Int,Nd K (if t=K.run then K else { (K.tell c 5 t K.run 0).cost 10 with run:=t }):=fun t=>by
  split
  ·exact r
  ·exact Nd.set (Nd.cost (r.tell 5 _ _ _ (by decide)) 10) rfl rfl
 unfold Kn.dispatch;dsimp only
 cases z0h K.R with
 | none=>exact .inl (Nd.cost (r2 255) 1)
 | some t=>exact Dv.pre (r2 t) (zs8 hp _ _ _)
theorem zrp (hp:z1l c.filter 2=true) (K:Kn) (n:Nat) (value:Int):Dv value K (K.serve c n value):=by
 have r1:Nd K (K.cost (zT (z0j (lcg c n).code K.iat 38))):=(Nd.refl K).cost _;unfold Kn.serve;dsimp only;generalize K.cost (zT (z0j (lcg c n).code K.iat 38))=K1 at r1 ⊢;generalize z0j (lcg c n).code K.iat 38=i
 split
 ·have r2:=r1.putCx (64+n) (doI i (K1.cx (64+n))).2;generalize K1.putCx (64+n) (doI i (K1.cx (64+n))).2=K2 at r2 ⊢
  split
  ·exact .inl r2
  ·have r3:=r2.tell (c:=c) 21 ((64:Int)+n) (doI i (K1.cx (64+n))).1 0 (by decide);generalize K2.tell c 21 ((64:Int)+n) (doI i (K1.cx (64+n))).1 0=K3 at r3 ⊢;have r4:Nd K { K3 with ln:=K3.ln.bar n }:=r3.set rfl rfl;generalize ({ K3 with ln:=K3.ln.bar n }:Kn)=K4 at r4 ⊢;exact .inl (Nd.set (r4.tell (c:=c) 4 n 0 0 (by decide)) rfl rfl)
 split
 ·exact .inl (Nd.set (r1.tell (c:=c) 4 n 0 0 (by decide)) rfl rfl)
 ·exact Dv.pre (K1:={ K1 with iat:=K1.iat+1 }) (r1.set rfl rfl) (zqL hp _ _ _ _)
theorem zrQ (hp:z1l c.filter 2=true) (K:Kn) (value:Int):Dv value K (K.act c value):=by
 have r:=Nd.refl K;unfold Kn.act
 split
 ·exact .inl r
 split
 ·exact zrp hp _ _ _
 split
 ·dsimp only;exact .inl (Nd.set (Nd.cost (Nd.tell (by exact r.set rfl rfl) 3 _ _ _ (by decide)) 6) rfl rfl)
 ·exact zqR hp _ _
theorem zrH (hp:z1l c.filter 2=true) (K:Kn) (ht:K.told=[]) (bits:Nat) (value:Int) :
  (zqh (K.evs c bits value)=[]∧(K.step c bits value).reads=K.reads)∨((∃ e:Ev,e.k=2∧e.v=value.toNat∧zqh (K.evs c bits value)=[e])∧(K.step c bits value).reads=(K.reads+1)%18446744073709551616):=by
 have h1:Nd K (K.tick c):=(Nd.refl K).tick;have h2:Nd (K.tick c).take ((K.tick c).take.raise c bits):=(Nd.refl _).raise bits;have h3:=zrQ hp ((K.tick c).take.raise c bits).take value;have e0:zqh K.told=[]:=by rw [ht];rfl
 have e1:zqh (K.tick c).told=[]:=h1.1.trans e0;have e2:zqh ((K.tick c).take.raise c bits).told=[]:=h2.1;have e3:((K.tick c).take.raise c bits).take.reads=K.reads:=h2.2.trans h1.2;unfold Kn.evs;rw [zqi,zqi,e1,e2,List.nil_append,List.nil_append]
 rcases h3 with ⟨a,b⟩ | ⟨⟨e,a1,a2,a3⟩,b⟩
 ·exact .inl ⟨a,b.trans e3⟩
 ·exact .inr ⟨⟨e,a1,a2,a3⟩,by rw [← e3];exact b⟩
end
def zqd (t:List Int) (r:Int):Int:=if r<t.length then lg t r.toNat else 0
def zqb (t:List Int):Int→List Ev→Prop
 | _,[]=>True
 | r,e::l=>if e.k=2 then (e.v:Int)=zqd t r∧zqb t (r+1) l else zqb t r l
theorem zqs (e:Ev) (l:List Ev):zqh (e::l)=if e.k=2 then e::zqh l else zqh l:=by
 unfold zqh;rw [List.filter_cons]
 by_cases h:e.k=2
 ·rw [if_pos (by simp [h]),if_pos h]
 ·rw [if_neg (by simp [h]),if_neg h]
theorem zql (t:List Int):∀ (a b:List Ev) (r:Int),zqb t r (a++b)↔zqb t r a∧zqb t (r+(zqh a).length) b
 | [],b,r=>by
  show zqb t r b↔True∧zqb t (r+((0:Nat):Int)) b;simp
 | e::a,b,r=>by
  rw [List.cons_append];show (if e.k=2 then (e.v:Int)=zqd t r∧zqb t (r+1) (a++b) else zqb t r (a++b))↔(if e.k=2 then (e.v:Int)=zqd t r∧zqb t (r+1) a else zqb t r a)∧_;rw [zqs]
  by_cases h:e.k=2
  ·rw [if_pos h,if_pos h,if_pos h,zql t a b (r+1)];rw [List.length_cons,show r+1+((zqh a).length:Int)=r+(((zqh a).length+1:Nat):Int) by omega,and_assoc]
  ·rw [if_neg h,if_neg h,if_neg h,zql t a b r]
theorem zqm (t:List Int):∀ (l:List Ev) (r:Int),zqh l=[]→zqb t r l
 | [],_,_=>trivial
 | e::l,r,h=>by
  rw [zqs] at h
  by_cases h2:e.k=2
  ·rw [if_pos h2] at h;exact absurd h (by simp)
  ·rw [if_neg h2] at h;show (if e.k=2 then _ else zqb t r l);rw [if_neg h2];exact zqm t l r h
theorem zqC (t:List Int) (x:Ev):∀ (l:List Ev) (r:Int),zqh l=[x]→(x.v:Int)=zqd t r→zqb t r l
 | [],_,h,_=>absurd h (by simp [zqh])
 | e::l,r,h,hx=>by
  rw [zqs] at h;show (if e.k=2 then (e.v:Int)=zqd t r∧zqb t (r+1) l else zqb t r l)
  by_cases h2:e.k=2
  ·rw [if_pos h2] at h ⊢;obtain ⟨rfl,h3⟩:=List.cons.inj h;exact ⟨hx,zqm t l _ h3⟩
  ·rw [if_neg h2] at h ⊢;exact zqC t x l r h hx
theorem zr4 {c:Cf} (hp:z1l c.filter 2=true):∀ (n:Nat) {w:Wd},zr8 c w→w.K.reads+n<18446744073709551616 →
  zqb w.tape w.K.reads (Wd.evs c n w)∧(Wd.run c n w).K.reads=w.K.reads+(zqh (Wd.evs c n w)).length
 | 0,w,h,hr=>⟨trivial,by show w.K.reads=w.K.reads+((0:Nat):Int);omega⟩
 | n+1,w,h,hr=>by
  by_cases hd:(w.done:Int)<w.steps
  ·rw [zq9,zqa,if_pos hd,if_pos hd,zql,zqi,List.length_append];have h0:=h.inv.rds;have ev:((w.val.toNat:Nat):Int)=w.val:=Int.toNat_of_nonneg (zqV h).1;have eone:(w.one c).K=w.K.step c w.bits w.val:=rfl;have etp:(w.one c).tape=w.tape:=rfl
   rcases zrH hp w.K h.told w.bits w.val with ⟨a,b⟩ | ⟨⟨e,a1,a2,a3⟩,b⟩
   ·obtain ⟨i1,i2⟩:=zr4 hp n (zqu h hd) (by rw [eone,b];omega);rw [eone,b,etp] at i1;rw [eone,b] at i2;rw [a];refine ⟨⟨zqm _ _ _ a,by show zqb w.tape (w.K.reads+((0:Nat):Int)) _;simpa using i1⟩,?_⟩;rw [i2];show _=w.K.reads+(((0:Nat)+(zqh (Wd.evs c n (w.one c))).length:Nat):Int);omega
   ·have b':(w.K.step c w.bits w.val).reads=w.K.reads+1:=by rw [b];omega
    obtain ⟨i1,i2⟩:=zr4 hp n (zqu h hd) (by rw [eone,b'];omega);rw [eone,b',etp] at i1;rw [eone,b'] at i2;rw [a3];refine ⟨⟨zqC _ e _ _ a3 (by rw [a2,ev];rfl),by show zqb w.tape (w.K.reads+((1:Nat):Int)) _;simpa using i1⟩,?_⟩;rw [i2];show _=w.K.reads+(((1:Nat)+(zqh (Wd.evs c n (w.one c))).length:Nat):Int);omega
  ·rw [zq9,zqa,if_neg hd,if_neg hd];exact ⟨trivial,by show w.K.reads=w.K.reads+((0:Nat):Int);omega⟩
structure zez (c:Cf):Prop where
 t:c.ts.length≤70
 l:c.ls.length≤20
 s:c.sems.length≤40
 q:c.queues.length≤40
 m:c.timers.length≤40
 tc:∀ t,t<c.ts.length→(tcg c t).code.length≤300
 lc:∀ t,t<c.ls.length→(lcg c t).code.length≤300
def znV (w0:World) (P:HP) (Q:Prop) (e:Ending) (w':World):Prop:=∃ z:Bool,e=.returned (.bool z)∧Sat w0 w' P∧(z=false→Q)
theorem zik (v:Value) (c:Cf) (w0:World) (hr:z8I w0 v c) :
  Calls Tryz.prog 49 #[v] w0 (znV w0 emp (zez c)):=by
 have hs:=Sat.start w0;obtain ⟨tv,lv,sv,qv,mv,rfl,⟨T,hT,hTn,hTi⟩,⟨L,hL,hLn,hLi⟩,hS,hQ,hM⟩:=hr.out;clear hr;obtain ⟨sa,scap,_,_,rfl,_⟩:=hS;obtain ⟨qa,qcap,_,_,rfl,_⟩:=hQ;obtain ⟨ma,mcap,_,_,rfl,_⟩:=hM;obtain ⟨ta,tcap,tg,tto,rfl,_,_,hta,htc⟩:=hT;obtain ⟨la,lcap,lg',lo,rfl,_,_,hla,hlc⟩:=hL;rw [hTn,hLn];have Hta:=hid hta;have Htc:=hid htc;have Hla:=hid hla;have Hlc:=hid hlc;have HTn:=hid hTn;have HLn:=hid hLn;have HTi:=hid hTi;have HLi:=hid hLi;clear hta htc hla hlc hTn hLn hTi hLi
 by_cases g1:70<c.ts.length
 ·have d1:decide (70<c.ts.length)=true:=decide_eq_true g1;have d2:decide ((70:Int)<(c.ts.length:Int))=true:=by simp;omega
  clear g1
  go_enter Tryz.func49,Tryz.ntmps49
  go_wp2_with fail;go_ret;exact ⟨true,rfl,z3,fun h=>by cases h⟩
 have d1:decide (70<c.ts.length)=false:=decide_eq_false g1;have e1:decide ((70:Int)<(c.ts.length:Int))=false:=by simp;omega
 by_cases g2:20<c.ls.length
 ·have d2:decide (20<c.ls.length)=true:=decide_eq_true g2;have e2:decide ((20:Int)<(c.ls.length:Int))=true:=by simp;omega
  go_enter Tryz.func49,Tryz.ntmps49
  go_wp2_with fail;go_ret;exact ⟨true,rfl,z3,fun h=>by cases h⟩
 have d2:decide (20<c.ls.length)=false:=decide_eq_false g2;have e2:decide ((20:Int)<(c.ls.length:Int))=false:=by simp;omega
 by_cases g3:40<c.sems.length
 ·have d3:decide (40<c.sems.length)=true:=decide_eq_true g3;have e3:decide ((40:Int)<(c.sems.length:Int))=true:=by simp;omega
  go_enter Tryz.func49,Tryz.ntmps49
  go_wp2_with fail;go_ret;exact ⟨true,rfl,z3,fun h=>by cases h⟩
 have d3:decide (40<c.sems.length)=false:=decide_eq_false g3;have e3:decide ((40:Int)<(c.sems.length:Int))=false:=by simp;omega
 by_cases g4:40<c.queues.length
 ·have d4:decide (40<c.queues.length)=true:=decide_eq_true g4;have e4:decide ((40:Int)<(c.queues.length:Int))=true:=by simp;omega
  go_enter Tryz.func49,Tryz.ntmps49
  go_wp2_with fail;go_ret;exact ⟨true,rfl,z3,fun h=>by cases h⟩
 have d4:decide (40<c.queues.length)=false:=decide_eq_false g4;have e4:decide ((40:Int)<(c.queues.length:Int))=false:=by simp;omega
 by_cases g5:40<c.timers.length
 ·have d5:decide (40<c.timers.length)=true:=decide_eq_true g5;have e5:decide ((40:Int)<(c.timers.length:Int))=true:=by simp;omega
  go_enter Tryz.func49,Tryz.ntmps49
  go_wp2_with fail;go_ret;exact ⟨true,rfl,z3,fun h=>by cases h⟩
 have d5:decide (40<c.timers.length)=false:=decide_eq_false g5;have e5:decide ((40:Int)<(c.timers.length:Int))=false:=by simp;omega
 go_enter Tryz.func49,Tryz.ntmps49
 go_wp2_with fail;refine z9 (w0:=w0) ?_;intro ww hsw;clear hs
 go_loopw [3,4] (fun nv i wr=>∃ k n:Nat,k≤c.ts.length∧n≤300*k∧nv=.int .i64 n∧i=.int .i64 k∧(∀ j,j<k→(tcg c j).code.length≤300)∧Sat w0 wr (pts w0.heap.size 0 [.slice ta c.ts.length tcap,.slice la c.ls.length lcap,.int .i64 c.mutexes,.slice sa c.sems.length scap,.slice qa c.queues.length qcap,.slice ma c.timers.length mcap,.int .i64 c.table,.int .u32 c.mask,.int .u32 c.filter,.int .i64 c.charge,.int .u64 c.cycle,.int .u64 c.count]*any)) (fun _ i _=>c.ts.length-(intOf i).toNat)
 case atStart=>exact ⟨0,0,Nat.zero_le _,Nat.zero_le _,rfl,rfl,fun j hj=>absurd hj (by omega),z3⟩
 case round =>
  obtain ⟨k,n,hk,hn,rfl,rfl,hb,hsr⟩:=hrel;clear hsw;have Hb:=hid hb;clear hb
  by_cases hlt:k<c.ts.length
  ·have f3:decide (k<c.ts.length)=true:=decide_eq_true hlt;have i3:(k:Int)<(c.ts.length:Int):=by omega
   have hTl:=HTn.out;obtain rfl:=Hta.out (by intro h;simp [h] at hTl;omega);have hit:=HTi.out k hlt;obtain ⟨u,hu⟩:∃ u,u=T.getD k tv0:=⟨_,rfl⟩;have oc:∀ c' y,c'<6→(z8Q.enc u)[c']?=some y→w0.cell? ⟨tg,tto+k*6+c',none⟩=some y:=fun c' y hc6 he=>z2i Htc.out (by omega) hc6 (by show (z8Q.enc (T.getD k tv0))[c']?=some y;rw [← hu];exact he);rw [← hu] at hit;have hcl:u.cn=(tcg c k).code.length:=hit.code.caps.1;haveI o5:Old w0 tg (tto+k*6+5) (.slice u.ca u.cn u.cc):=⟨oc 5 _ (by decide) rfl⟩;clear oc hu hTl hit
   by_cases hz0:300<u.cn
   ·have f4:decide (300<u.cn)=true:=decide_eq_true hz0;have i4:decide ((300:Int)<(u.cn:Int))=true:=by simp;omega
    clear hcl;go_wp2_with fail;go_ret;exact ⟨true,rfl,z3,fun h=>by cases h⟩
   ·have f4:decide (300<u.cn)=false:=decide_eq_false hz0;have i4:decide ((300:Int)<(u.cn:Int))=false:=by simp;omega
    have hb2:Hid (∀ j,j<k+1→(tcg c j).code.length≤300):=hid fun j hj=>by
     rcases Nat.lt_or_ge j k with h | h
     ·exact Hb.out j h
     ·obtain rfl:j=k:=by omega
      omega
    clear hcl;go_wp2_with fail;go_roundw
    case rel=>exact ⟨k+1,n+u.cn,by omega,by omega,by go_num,by go_num,hb2.out,z3⟩
    case measure=>simp [intOf];omega
  ·have hkl:k=c.ts.length:=by omega
   subst hkl;have f3:decide (c.ts.length<c.ts.length)=false:=by simp
   clear hlt hk;go_wp2_with fail;refine z9 (w0:=w0) ?_;intro w3 hs3;clear hsr
   go_loopw [3,5] (fun nv i wr=>∃ k n:Nat,k≤c.ls.length∧n≤300*70+300*k∧nv=.int .i64 n∧i=.int .i64 k∧(∀ j,j<k→(lcg c j).code.length≤300)∧Sat w0 wr (pts w0.heap.size 0 [.slice ta c.ts.length tcap,.slice la c.ls.length lcap,.int .i64 c.mutexes,.slice sa c.sems.length scap,.slice qa c.queues.length qcap,.slice ma c.timers.length mcap,.int .i64 c.table,.int .u32 c.mask,.int .u32 c.filter,.int .i64 c.charge,.int .u64 c.cycle,.int .u64 c.count]*any)) (fun _ i _=>c.ls.length-(intOf i).toNat)
   case atStart=>exact ⟨0,n,Nat.zero_le _,by omega,rfl,rfl,fun j hj=>absurd hj (by omega),z3⟩
   case round =>
    obtain ⟨k,n,hk,hn,rfl,rfl,hb,hsr⟩:=hrel;clear hs3;have Hb2:=hid hb;clear hb
    by_cases hlt:k<c.ls.length
    ·have f3:decide (k<c.ls.length)=true:=decide_eq_true hlt;have i3:(k:Int)<(c.ls.length:Int):=by omega
     have hLl:=HLn.out;obtain rfl:=Hla.out (by intro h;simp [h] at hLl;omega);have hit:=HLi.out k hlt;obtain ⟨u,hu⟩:∃ u,u=L.getD k lv0:=⟨_,rfl⟩;have oc:∀ c' y,c'<2→(z8P.enc u)[c']?=some y→w0.cell? ⟨lg',lo+k*2+c',none⟩=some y:=fun c' y hc6 he=>z2i Hlc.out (by omega) hc6 (by show (z8P.enc (L.getD k lv0))[c']?=some y;rw [← hu];exact he);rw [← hu] at hit;have hcl:u.cn=(lcg c k).code.length:=hit.code.caps.1;haveI o5:Old w0 lg' (lo+k*2+1) (.slice u.ca u.cn u.cc):=⟨oc 1 _ (by decide) rfl⟩;clear oc hu hLl hit
     by_cases hz0:300<u.cn
     ·have f4:decide (300<u.cn)=true:=decide_eq_true hz0;have i4:decide ((300:Int)<(u.cn:Int))=true:=by simp;omega
      clear hcl;go_wp2_with fail;go_ret;exact ⟨true,rfl,z3,fun h=>by cases h⟩
     ·have f4:decide (300<u.cn)=false:=decide_eq_false hz0;have i4:decide ((300:Int)<(u.cn:Int))=false:=by simp;omega
      have hb2:Hid (∀ j,j<k+1→(lcg c j).code.length≤300):=hid fun j hj=>by
       rcases Nat.lt_or_ge j k with h | h
       ·exact Hb2.out j h
       ·obtain rfl:j=k:=by omega
        omega
      clear hcl;go_wp2_with fail;go_roundw
      case rel=>exact ⟨k+1,n+u.cn,by omega,by omega,by go_num,by go_num,hb2.out,z3⟩
      case measure=>simp [intOf];omega
    ·have hkl:k=c.ls.length:=by omega
     subst hkl;have f3:decide (c.ls.length<c.ls.length)=false:=by simp
     clear hlt hk;go_wp2_with fail;go_ret;exact ⟨_,rfl,z3,fun _=>⟨by omega,by omega,by omega,by omega,by omega,Hb.out,Hb2.out⟩⟩
theorem z9a (v:Value) (c:Cf) (n:Int) (w0:World) (hr:z8I w0 v c) :
  Calls Tryz.prog 13 #[v,.int .i64 n] w0 (znV w0 emp (zez c∧n≤200)):=by
 have hs:=Sat.start w0;have hA:=hid (fun (w:World) (h:Sat w0 w any)=>zik v c w (hr.later h));obtain ⟨tv,lv,sv,qv,mv,rfl,⟨T,hT,hTn,hTi⟩,⟨L,hL,hLn,hLi⟩,hS,hQ,hM⟩:=hr.out;clear hr;obtain ⟨sa,scap,_,_,rfl,_⟩:=hS;obtain ⟨qa,qcap,_,_,rfl,_⟩:=hQ;obtain ⟨ma,mcap,_,_,rfl,_⟩:=hM;obtain ⟨ta,tcap,tg,tto,rfl,_,_,hta,htc⟩:=hT;obtain ⟨la,lcap,lg',lo,rfl,_,_,hla,hlc⟩:=hL;rw [hTn,hLn] at hA;rw [hTn,hLn];have Hta:=hid hta;have Htc:=hid htc;have Hla:=hid hla;have Hlc:=hid hlc;have HTn:=hid hTn;have HLn:=hid hLn;have HTi:=hid hTi;have HLi:=hid hLi;clear hta htc hla hlc hTn hLn hTi hLi
 go_enter Tryz.func13,Tryz.ntmps13
 go_wp2_with fail;refine (hA.out _ z3).mono ?_;rintro en w1 ⟨z,rfl,hs1,hz⟩;have hs2:=Sat.past (w0:=w0) z6 hs1;have Hz:=hid hz;clear hs1 hs hz hA
 cases z
 case true =>
  go_wp2_with fail;go_ret;exact ⟨true,rfl,z3,fun h=>by cases h⟩
 case false =>
  have hp:=Hz.out rfl;have g1:=hp.t;have g2:=hp.l;have Hp:=hid hp;clear hp Hz;go_wp2_with fail;refine z9 (w0:=w0) ?_;intro ww hsw;clear hs2
  go_loopw [5,15] (fun nv i wr=>∃ k m:Nat,k≤c.ts.length∧m≤1000*k∧nv=.int .i64 m∧i=.int .i64 k∧Sat w0 wr (pts w0.heap.size 0 [.slice ta c.ts.length tcap,.slice la c.ls.length lcap,.int .i64 c.mutexes,.slice sa c.sems.length scap,.slice qa c.queues.length qcap,.slice ma c.timers.length mcap,.int .i64 c.table,.int .u32 c.mask,.int .u32 c.filter,.int .i64 c.charge,.int .u64 c.cycle,.int .u64 c.count]*any)) (fun _ i _=>c.ts.length-(intOf i).toNat)
  case atStart=>exact ⟨0,0,Nat.zero_le _,Nat.zero_le _,rfl,rfl,z3⟩
  case round =>
   obtain ⟨k,m,hk,hm,rfl,rfl,hsr⟩:=hrel;clear hsw
   by_cases hlt:k<c.ts.length
   ·have f3:decide (k<c.ts.length)=true:=decide_eq_true hlt;have i3:(k:Int)<(c.ts.length:Int):=by omega
    have hTl:=HTn.out;obtain rfl:=Hta.out (by intro h;simp [h] at hTl;omega);obtain ⟨u,hu⟩:∃ u,u=T.getD k tv0:=⟨_,rfl⟩;have oc:∀ c' y,c'<6→(z8Q.enc u)[c']?=some y→w0.cell? ⟨tg,tto+k*6+c',none⟩=some y:=fun c' y hc6 he=>z2i Htc.out (by omega) hc6 (by show (z8Q.enc (T.getD k tv0))[c']?=some y;rw [← hu];exact he);haveI o0:Old w0 tg (tto+k*6) (.int .i64 u.lev):=⟨oc 0 _ (by decide) rfl⟩;haveI o1:Old w0 tg (tto+k*6+1) (.int .i64 u.off):=⟨oc 1 _ (by decide) rfl⟩;haveI o2:Old w0 tg (tto+k*6+2) (.int .i64 u.per):=⟨oc 2 _ (by decide) rfl⟩;haveI o3:Old w0 tg (tto+k*6+3) (.int .i64 u.dl):=⟨oc 3 _ (by decide) rfl⟩;haveI o4:Old w0 tg (tto+k*6+4) (.int .i64 u.mem):=⟨oc 4 _ (by decide) rfl⟩;haveI o5:Old w0 tg (tto+k*6+5) (.slice u.ca u.cn u.cc):=⟨oc 5 _ (by decide) rfl⟩;clear oc hu hTl;have hq:∀ x:Int,0≤(if 1000<(if x<0 then 0 else x) then 1000 else if x<0 then 0 else x)∧(if 1000<(if x<0 then 0 else x) then 1000 else if x<0 then 0 else x)≤1000:=fun x=>by split<;>split<;>omega
    have Hq:=hid (hq u.mem);clear hq;go_wp2_with fail;have Hq:=Hq.out;generalize (if 1000<(if u.mem<0 then 0 else u.mem) then (1000:Int) else if u.mem<0 then 0 else u.mem)=q at *;obtain ⟨q,rfl⟩:=Int.eq_ofNat_of_zero_le Hq.1;refine ⟨⟨k+1,m+q,by omega,by omega,by go_num,by go_num,z3⟩,?_⟩;simp [intOf];omega
   ·have hkl:k=c.ts.length:=by omega
    subst hkl;have f3:decide (c.ts.length<c.ts.length)=false:=by simp
    clear hlt hk;go_wp2_with fail;refine z9 (w0:=w0) ?_;intro w3 hs3;clear hsr
    go_loopw [5,29] (fun nv i wr=>∃ k m:Nat,k≤c.ls.length∧m≤70000+1000*k∧nv=.int .i64 m∧i=.int .i64 k∧Sat w0 wr (pts w0.heap.size 0 [.slice ta c.ts.length tcap,.slice la c.ls.length lcap,.int .i64 c.mutexes,.slice sa c.sems.length scap,.slice qa c.queues.length qcap,.slice ma c.timers.length mcap,.int .i64 c.table,.int .u32 c.mask,.int .u32 c.filter,.int .i64 c.charge,.int .u64 c.cycle,.int .u64 c.count]*any)) (fun _ i _=>c.ls.length-(intOf i).toNat)
    case atStart=>exact ⟨0,m,Nat.zero_le _,by omega,rfl,rfl,z3⟩
    case round =>
     obtain ⟨k,m,hk,hm,rfl,rfl,hsr⟩:=hrel;clear hs3
     by_cases hlt:k<c.ls.length
     ·have f3:decide (k<c.ls.length)=true:=decide_eq_true hlt;have i3:(k:Int)<(c.ls.length:Int):=by omega
      have hLl:=HLn.out;obtain rfl:=Hla.out (by intro h;simp [h] at hLl;omega);obtain ⟨u,hu⟩:∃ u,u=L.getD k lv0:=⟨_,rfl⟩;have oc:∀ c' y,c'<2→(z8P.enc u)[c']?=some y→w0.cell? ⟨lg',lo+k*2+c',none⟩=some y:=fun c' y hc6 he=>z2i Hlc.out (by omega) hc6 (by show (z8P.enc (L.getD k lv0))[c']?=some y;rw [← hu];exact he);haveI o0:Old w0 lg' (lo+k*2) (.int .i64 u.mem):=⟨oc 0 _ (by decide) rfl⟩;haveI o1:Old w0 lg' (lo+k*2+1) (.slice u.ca u.cn u.cc):=⟨oc 1 _ (by decide) rfl⟩;clear oc hu hLl;have hq:∀ x:Int,0≤(if 1000<(if x<0 then 0 else x) then 1000 else if x<0 then 0 else x)∧(if 1000<(if x<0 then 0 else x) then 1000 else if x<0 then 0 else x)≤1000:=fun x=>by split<;>split<;>omega
      have Hq:=hid (hq u.mem);clear hq;go_wp2_with fail;have Hq:=Hq.out;generalize (if 1000<(if u.mem<0 then 0 else u.mem) then (1000:Int) else if u.mem<0 then 0 else u.mem)=q at *;obtain ⟨q,rfl⟩:=Int.eq_ofNat_of_zero_le Hq.1;refine ⟨⟨k+1,m+q,by omega,by omega,by go_num,by go_num,z3⟩,?_⟩;simp [intOf];omega
     ·have hkl:k=c.ls.length:=by omega
      subst hkl;have f3:decide (c.ls.length<c.ls.length)=false:=by simp
      clear hlt hk
      by_cases hn:200<n
      ·have f4:decide (200<n)=true:=decide_eq_true hn;go_wp2_with fail;go_ret;exact ⟨true,rfl,z3,fun h=>by cases h⟩
      ·have f4:decide (200<n)=false:=decide_eq_false hn;go_wp2_with fail;go_ret
       first | exact ⟨_,rfl,z3,fun _=>Hp.out⟩ | exact ⟨_,rfl,z3,fun _=>⟨Hp.out,by omega⟩⟩
theorem zrn (v u:Value) (c:Cf) (s:Sc) (rg:z6B c) (w0:World) (hr:z8I w0 v c) (hq:zqQ w0 u s) (he:wdE c s≠0) :
  Calls Tryz.prog 37 #[v,u] w0 (zp w0 (.tuple #[.pointer none,.int .i64 (wdE c s)]) emp):=by
 unfold wdE at he ⊢
 split at he
 ·rename_i h;rw [if_pos h];exact zqO v u c s rg w0 hr hq h
 ·rename_i h;rw [if_neg h];exact zr6 v u c s rg w0 hr hq (Classical.not_not.1 h) he
theorem zs3 (v u:Value) (c:Cf) (s:Sc) (rg:z6B c) (w0:World) (hr:z8I w0 v c) (hq:zqQ w0 u s) (he:wdE c s≠0) :
  Calls Tryz.prog 35 #[v,u] w0 (zp w0 (.tuple #[.slice none 0 0,.agg zsP.toArray,.int .i64 (wdE c s)]) any):=by
 have hs:=Sat.start w0;have hN:=hid (fun (w:World) (h:Sat w0 w any)=>zrn v u c s rg w (hr.later h) (hq.later h) he);obtain ⟨ta,la,sa,qa,ma,tc,lc,sc,qc,mc,rfl,_,_,_,_,_⟩:=hr.form;obtain ⟨aa,ac,ta2,tc2,rfl,_,_⟩:=hq;have e1:(wdE c s != 0)=true:=by simp [he]
 clear hr he;generalize wdE c s=z at *
 go_enter Tryz.func35,Tryz.ntmps35
 go_wp2_with fail;refine (hN.out _ z3).mono ?_;rintro en w1 ⟨rfl,hp⟩;have hs2:=Sat.past (w0:=w0) z6 hp;clear hs hp;go_wp2_with (first | (refine z09 (w0:=w0) (cells:=zsP) (old:=zsP) rfl rfl rfl rfl Go.Sx.own rfl (by kernel_rfl) rfl ?_;intro w5 hs5));refine bodyPost_ret (zqv Tryz.results35 rfl hs5 Tryz.underlying51 rfl (by kernel_rfl)) rfl ?_;exact ⟨rfl,z3⟩
theorem zs6 (v:Value) (s:Sc) (n:Int) (h0:0≤n∧n<18446744073709551616) (hb:s.tape.length≤1000000) (w0:World) (hr:zqQ w0 v s) :
  Calls Tryz.prog 36 #[v,.int .u64 n] w0 (zp w0 (.int .u32 (zqd s.tape n)) emp):=by
 have hs:=Sat.start w0;obtain ⟨st,A,T⟩:=s;obtain ⟨aa,ac,ta,tc,rfl,hA,hT⟩:=hr;dsimp only at hA hT hb ⊢;clear hA;obtain ⟨m,rfl⟩:=Int.eq_ofNat_of_zero_le h0.1;obtain ⟨_,_,tg,tto,e0,_,_,ha,hc⟩:=hT;simp only [Value.slice.injEq,true_and] at e0;obtain ⟨rfl,rfl⟩:=e0;have u1:IntKind.u64.wrap (T.length:Int)=(T.length:Int):=by rw [IntKind.wrap_u64];omega
 have Ha:=hid ha;have Hc:=hid hc;clear ha hc h0
 by_cases hlt:m<T.length
 ·have hv:=hid (show zqd T (m:Int)=T.getD m 0 by unfold zqd lg;rw [if_pos (by omega),Int.toNat_natCast]);have d1:decide ((m:Int)<(T.length:Int))=true:=decide_eq_true (by omega);have d2:decide (m<T.length)=true:=decide_eq_true hlt;have i2:(m:Int)<(T.length:Int):=by omega
  obtain rfl:=Ha.out (by intro h;simp [h] at hlt);rw [hv.out];obtain ⟨x,hx⟩:∃ x,x=T.getD m 0:=⟨_,rfl⟩;have hc1:=Hc.out m hlt;rw [← hx] at hc1 ⊢;haveI o1:Old w0 tg (tto+m) (.int .u32 x):=⟨hc1⟩;clear hc1 hv hlt hx hb
  go_enter Tryz.func36,Tryz.ntmps36
  go_wp2_with fail;go_ret;exact ⟨rfl,z3⟩
 ·have hv:=hid (show zqd T (m:Int)=0 by unfold zqd;rw [if_neg (by omega)]);have d1:decide (m<T.length)=false:=decide_eq_false hlt;rw [hv.out];clear hlt hv hb
  go_enter Tryz.func36,Tryz.ntmps36
  go_wp2_with fail;go_ret;exact ⟨rfl,z3⟩
theorem zs9 (v u:Value) (c:Cf) (s:Sc) (w0:World) (hr:z8I w0 v c) (hq:zqQ w0 u s) :
  Calls Tryz.prog 34 #[v,u] w0 (znV w0 emp (zez c∧s.steps≤200∧s.ar.length≤300∧s.tape.length≤300)):=by
 have hs:=Sat.start w0;have hG:=hid (fun (n:Int) (w:World) (h:Sat w0 w any)=>z9a v c n w (hr.later h));obtain ⟨ta,la,sa,qa,ma,tc,lc,sc,qc,mc,rfl,_,_,_,_,_⟩:=hr.form;obtain ⟨aa,ac,ta2,tc2,rfl,_,_⟩:=hq;obtain ⟨st,A,T⟩:=s;clear hr;dsimp only;have k3:∃ b3:Bool,decide (300<A.length)=b3∧decide ((300:Int)<(A.length:Int))=b3∧(b3=false→A.length≤300):=⟨_,rfl,by simp;omega,fun h=>by simpa using h⟩;have k4:∃ b4:Bool,decide (300<T.length)=b4∧decide ((300:Int)<(T.length:Int))=b4∧(b4=false→T.length≤300):=⟨_,rfl,by simp;omega,fun h=>by simpa using h⟩;obtain ⟨b3,d3,e3,H3⟩:=k3;obtain ⟨b4,d4,e4,H4⟩:=k4;have H3:=hid H3;have H4:=hid H4
 cases b3<;>cases b4
 all_goals
  go_enter Tryz.func34,Tryz.ntmps34
  go_wp2_with fail
  all_goals
   refine (hG.out _ _ z3).mono ?_;rintro en w1 ⟨z,rfl,hp,hz⟩;have hs1:=Sat.past (w0:=w0) z6 hp;have Hz:=hid hz;clear hp hs hz
   cases z
   all_goals
    go_wp2_with fail;go_ret
    first
     | exact ⟨true,rfl,z3,fun h=>by cases h⟩
     | exact ⟨false,rfl,z3,fun _=>⟨(Hz.out (by trivial)).1,by have:=(Hz.out (by trivial)).2;omega,H3.out (by trivial),H4.out (by trivial)⟩⟩
def zsv (L:List Ev) (k:Nat):Nat:=(zqh (L.take k)).length
theorem zsw {L:List Ev} {k:Nat} (hk:k<L.length):zsv L (k+1)=zsv L k+(if (L.getD k ev0).k=2 then 1 else 0):=by
 unfold zsv;have e:L.getD k ev0=L[k]:=by simp [List.getD,hk]
 rw [List.take_succ_eq_append_getElem hk,zqi,List.length_append,zqs,e]
 split<;>rfl
theorem zsy (L:List Ev) (k:Nat):zsv L k≤k:=by
 unfold zsv zqh;exact Nat.le_trans (List.length_filter_le _ _) (by rw [List.length_take];omega)
theorem zsx (L:List Ev):zsv L L.length=(zqh L).length:=by unfold zsv;rw [List.take_length]
theorem zsA {t:List Int} {L:List Ev} (h:zqb t 0 L) {k:Nat} (hk:k<L.length) (h2:(L.getD k ev0).k=2):((L.getD k ev0).v:Int)=zqd t (zsv L k):=by
 have e:L=L.take k++L[k]::L.drop (k+1):=by rw [← List.drop_eq_getElem_cons hk,List.take_append_drop]
 have e2:L.getD k ev0=L[k]:=by simp [List.getD,hk]
 rw [e,zql] at h;have h3:=h.2;have h4:(if L[k].k=2 then (L[k].v:Int)=zqd t (0+(zqh (L.take k)).length)∧_ else _):=h3;rw [e2] at h2 ⊢;rw [if_pos h2] at h4;rw [h4.1,Int.zero_add];rfl
theorem zsE {f:Nat} (h:¬ f / 4%2=0):z1l f 2=true:=by
 unfold z1l;have:f.testBit 2=true:=by
  rw [Nat.testBit_eq_decide_div_mod_eq];simp;omega
 rw [this];rfl
theorem zsD {f:Nat} (h:((f:Int) / 4%2==0)=false):z1l f 2=true:=by
 refine zsE fun e=>?_;have:(f:Int) / 4%2=0:=by omega
 rw [this] at h;cases h
theorem zst (v0:Value) (c0:Cf) (v1:Value) (s0:Sc) (w0:World) (h0:z8I w0 v0 c0) (k0:z6B c0) (h1:zqQ w0 v1 s0) (k1:∀ x∈s0.tape,zG x) (hT:Tab w0) :
  Calls Tryz.prog 6 #[v0,v1] w0 (zp w0 (.bool true) emp):=by
 have hs:=Sat.start w0;have hAw:=hid (fun (w:World) (h:Sat w0 w any)=>zr9 w (hT.later h));have hLg:=hid (fun (w:World) (h:Sat w0 w any)=>zs9 v0 v1 c0 s0 w (h0.later h) (h1.later h));have hRe:=hid (fun (he:wdE c0 s0≠0) (w:World) (h:Sat w0 w any)=>zs3 v0 v1 c0 s0 k0 w (h0.later h) (h1.later h) he);have hRn:=hid (fun (he:wdE c0 s0=0) (w:World) (h:Sat w0 w any)=>zse v0 v1 c0 s0 k0 w (hT.later h) (h0.later h) (h1.later h) k1 he);have hVl:=hid (fun (n:Int) (hn:0≤n∧n<18446744073709551616) (hb:s0.tape.length≤1000000) (w:World) (h:Sat w0 w any)=>zs6 v1 s0 n hn hb w (h1.later h));have K1:=hid k1;have K0:=hid k0;obtain ⟨ta,la,sa,qa,ma,tc,lc,sc,qc,mc,rfl,_,_,_,_,_⟩:=h0.form;obtain ⟨aa,ac,ta2,tc2,rfl,_,_⟩:=h1;clear h0 hT k1 k0;have k3:∃ b:Bool,((c0.filter:Int) / 4%2==0)=b∧(b=false→z1l c0.filter 2=true):=⟨_,rfl,zsD⟩;obtain ⟨bf,d1,Hp⟩:=k3;have Hp:=hid Hp
 cases bf
 case true =>
  go_enter Tryz.func6,Tryz.ntmps6
  go_wp2_with fail;refine (hAw.out _ z3).mono ?_;rintro en w1 ⟨rfl,hp⟩;have hs1:=Sat.past (w0:=w0) z6 hp;clear hp hs;go_wp2_with fail;refine (hLg.out _ z3).mono ?_;rintro en w2 ⟨z,rfl,hp,hz⟩;have hs2:=Sat.past (w0:=w0) z6 hp;have Hz:=hid hz;clear hp hs1 hz
  cases z
  all_goals
   go_wp2_with fail;refine (hAw.out _ z3).mono ?_;rintro en w3 ⟨rfl,hp⟩;have hs3:=Sat.past (w0:=w0) z6 hp;clear hp hs2;go_wp2_with fail;go_ret;exact ⟨rfl,z3⟩
 case false =>
  have hpass:=hid (Hp.out rfl);clear Hp
  go_enter Tryz.func6,Tryz.ntmps6
  go_wp2_with fail;refine (hAw.out _ z3).mono ?_;rintro en w1 ⟨rfl,hp⟩;have hs1:=Sat.past (w0:=w0) z6 hp;clear hp hs;go_wp2_with fail;refine (hLg.out _ z3).mono ?_;rintro en w2 ⟨z,rfl,hp,hz⟩;have hs2:=Sat.past (w0:=w0) z6 hp;have Hz:=hid hz;clear hp hs1 hz
  cases z
  case true =>
   go_wp2_with fail;refine (hAw.out _ z3).mono ?_;rintro en w3 ⟨rfl,hp⟩;have hs3:=Sat.past (w0:=w0) z6 hp;clear hp hs2;go_wp2_with fail;go_ret;exact ⟨rfl,z3⟩
  case false =>
   have Lg:=hid (Hz.out rfl);clear Hz
   by_cases he:wdE c0 s0=0
   case neg =>
    have hR:=hid (hRe.out he);have q1:(wdE c0 s0 != 0)=true:=by simp [he]
    clear he hRe hRn;generalize wdE c0 s0=e at *;go_wp2_with fail;refine (hR.out _ z3).mono ?_;rintro en w3 ⟨rfl,hp⟩;have hs3:=Sat.over (w0:=w0) hs2 hp;clear hp hs2;go_wp2_with (first | (refine z09 (w0:=w0) (cells:=zsP) (old:=zsP) rfl rfl rfl rfl Go.Sx.own rfl (by kernel_rfl) rfl ?_;intro w5 hs5));go_ret;exact ⟨rfl,z3⟩
   case pos =>
    have hR:=hid (hRn.out he);have hW:=zrI (z4E K0.out (zs1 he).1) (zs1 he).2 K1.out;have hlen:=(zro s0.steps.toNat hW).1;have hdn:=(zrk s0.steps.toNat hW).done;have hst:=(zrk s0.steps.toNat hW).steps;obtain ⟨tO,tR⟩:=zr4 hpass.out s0.steps.toNat hW (by
     have:=Lg.out.2.1;show (0:Int)+s0.steps.toNat<_;omega)
    have tR:(Wd.run c0 s0.steps.toNat (zqA c0 s0)).K.reads=((zqh (Wd.evs c0 s0.steps.toNat (zqA c0 s0))).length:Int):=by
     rw [tR];exact Int.zero_add _
    have tO:zqb s0.tape 0 (Wd.evs c0 s0.steps.toNat (zqA c0 s0)):=tO;have hL6:(Wd.evs c0 s0.steps.toNat (zqA c0 s0)).length≤70000000:=by omega
    have HO:=hid tO;have HR:=hid tR;clear he hRe hRn hlen hdn hst tO tR hW;go_wp2_with fail;refine (hR.out _ z3).mono ?_;rintro en w3 ⟨v3,rfl,hp⟩;obtain ⟨ev,sv,rfl,hp2⟩:=zqU (hp.perm (zz _).symm);have hs3:=Sat.over (w0:=w0) z6 hp2;obtain ⟨ea,ec,rfl⟩:=hp2.slice_form;have hs4:Sat w0 w3 (stP sv ((Wd.run c0 s0.steps.toNat (zqA c0 s0)).K.st c0)*(z7 (.slice ea (Wd.evs c0 s0.steps.toNat (zqA c0 s0)).length ec) (Wd.evs c0 s0.steps.toNat (zqA c0 s0))*(pts (w0.heap.size+1) 0 [.slice aa s0.ar.length ac,.slice ta2 s0.tape.length tc2,.int .i64 s0.steps]*any))):=z3 (hs:=hs3);clear hp hp2 hs3 hs2;obtain ⟨cl,rfl,hcl,hone,⟨_,_,_,q27,_⟩,hs5⟩:=zqw hs4;have q27:cl[27]?=some (.int .u64 ((zqh (Wd.evs c0 s0.steps.toNat (zqA c0 s0))).length:Nat)):=by
     rw [q27];show some (Value.int .u64 (Wd.run c0 s0.steps.toNat (zqA c0 s0)).K.reads)=_;rw [HR.out]
    clear hs4 HR;generalize Kn.st c0 (Wd.run c0 s0.steps.toNat (zqA c0 s0)).K=sn at *;generalize Wd.evs c0 s0.steps.toNat (zqA c0 s0)=L at *;go_wp2_with (first | (refine z09 (w0:=w0) (cells:=cl) (old:=zsP) rfl rfl rfl rfl Go.Sx.own (by rw [hcl];rfl) (by rw [hcl];kernel_rfl) hone ?_;intro w5 hs6));refine z9 (w0:=w0) ?_;intro w6 hs7;clear hs6 hs5;generalize w3.heap.size=eb at *;have Q27:=hid q27;clear q27 hone hcl
    go_loopw [8,37] (fun nv i wr=>∃ k:Nat,k≤L.length∧nv=.int .u64 (zsv L k:Nat)∧i=.int .i64 k∧Sat w0 wr (pts eb 0 cl*(z7 (.slice ea L.length ec) L*(pts (w0.heap.size+1) 0 [.slice aa s0.ar.length ac,.slice ta2 s0.tape.length tc2,.int .i64 s0.steps]*any)))) (fun _ i _=>L.length-(intOf i).toNat)
    case atStart=>exact ⟨0,Nat.zero_le _,rfl,rfl,z3⟩
    case round =>
     obtain ⟨k,hk,rfl,rfl,hsr⟩:=hrel;clear hs7
     by_cases hlt:k<L.length
     ·have f3:decide (k<L.length)=true:=decide_eq_true hlt;have i3:(k:Int)<(L.length:Int):=by omega
      haveI:Lt k L.length:=⟨hlt⟩;obtain ⟨lb,lo,rfl⟩:=hsr.someR ea L.length ec (E:=zjV) (l:=L) (by omega);obtain ⟨x,hx⟩:∃ x,x=L.getD k ev0:=⟨_,rfl⟩;have hv:=hid (fun h=>zsA HO.out hlt h);have hn1:=hid (zsw hlt);have hnk:=zsy L k;rw [← hx] at hv hn1;haveI e0:z1v (E:=zjV) (L.getD k ev0) 0 (.int .i64 x.k):=⟨by rw [← hx];rfl⟩;haveI e1:z1v (E:=zjV) (L.getD k ev0) 1 (.int .u64 x.cy):=⟨by rw [← hx];rfl⟩;haveI e2:z1v (E:=zjV) (L.getD k ev0) 2 (.int .u64 x.co):=⟨by rw [← hx];rfl⟩;haveI e3:z1v (E:=zjV) (L.getD k ev0) 3 (.int .u32 x.a):=⟨by rw [← hx];rfl⟩;haveI e4:z1v (E:=zjV) (L.getD k ev0) 4 (.int .u32 x.b):=⟨by rw [← hx];rfl⟩;haveI e5:z1v (E:=zjV) (L.getD k ev0) 5 (.int .u32 x.v):=⟨by rw [← hx];rfl⟩;clear hx;obtain ⟨xk,xy,xo,xa,xb,xv⟩:=x;dsimp only at hv hn1 e0 e1 e2 e3 e4 e5
      by_cases h2:xk=2
      ·subst h2;have hV:=hid (fun (w:World) (h:Sat w0 w any)=>hVl.out ((zsv L k:Nat):Int) ⟨by omega,by omega⟩ (by have:=Lg.out.2.2.2;omega) w h);rw [← hv.out rfl] at hV;have hn2:=hid (show zsv L (k+1)=zsv L k+1 from hn1.out);clear hv hn1;generalize zsv L k=n at *;have u1:IntKind.u64.wrap ((n:Int)+1)=(n:Int)+1:=by rw [IntKind.wrap_u64];omega
       go_wp2_with fail;refine z9 (w0:=w0) ?_;intro w7 hs8;clear hsr;refine zj (fun w'=>Sat w0 w' (pts wr.heap.size 0 [.int .i64 2,.int .u64 xy,.int .u64 xo,.int .u32 xa,.int .u32 xb,.int .u32 xv]*(pts (w0.heap.size+1) 0 [.slice aa s0.ar.length ac,.slice ta2 s0.tape.length tc2,.int .i64 s0.steps]*any))) [(0,true),(1,true),(2,true),(3,true),(4,false),(5,true)] (by kernel_rfl) (by kernel_rfl) (fun _ _ _ _ h=>h) z3 ?_
       iterate 4 ((first | (refine zpI rfl (by rfl) ?_;apply Exists.intro;refine ⟨fun w hSw=>?_,?_⟩;focus ((try dsimp only at hSw);go_simp;try with_reducible rfl)) | refine zpH rfl (by rfl) ?_);simp only [Act.put,Go.zqA,Go.zqP,Go.zqQ])
       refine z29 rfl (by rfl) (fun K hK=>?_);go_wp2_with fail;refine (hV.out _ z3).mono ?_;rintro en w8 ⟨rfl,hp⟩;have hs9:=Sat.past (w0:=w0) z6 hp;clear hp hs8;go_wp2_with fail;refine ⟨z3,?_⟩
       iterate 1 ((first | (refine zpI rfl (by rfl) ?_;apply Exists.intro;refine ⟨fun w hSw=>?_,?_⟩;focus ((try dsimp only at hSw);go_simp;try with_reducible rfl)) | refine zpH rfl (by rfl) ?_);simp only [Act.put,Go.zqA,Go.zqP,Go.zqQ])
       refine zB ?_;go_wp2_with fail;go_roundw
       case rel=>exact ⟨k+1,by omega,by rw [hn2.out];rfl,by go_num,z3⟩
       case measure=>simp [intOf];omega
      ·have b2:(xk != 2)=true:=by simp [h2]
       have hn2:=hid (show zsv L (k+1)=zsv L k from by have:=hn1.out;rw [if_neg h2] at this;exact this);clear hv hn1 h2;go_wp2_with fail;go_roundw
       case rel=>exact ⟨k+1,by omega,by rw [hn2.out],by go_num,z3⟩
       case measure=>simp [intOf];omega
     ·have hkl:k=L.length:=by omega
      subst hkl;have f3:decide (L.length<L.length)=false:=by simp
      haveI c27:zC (pts eb 0 cl) eb 27 (.int .u64 ((zqh L).length:Nat)):=zrB Q27.out;have q1:(((zsv L L.length:Nat):Int)==((zqh L).length:Nat))=true:=by rw [zsx];simp
      clear hlt hk;go_wp2_with fail;go_ret;exact ⟨rfl,z3⟩
end Go.Proofs.YtlbjjoeocdimfaaGreatDoor
