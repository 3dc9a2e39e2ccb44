/-
  Parts of the proof: Open Tie7 CfOpen.
-/
import Derived.Test.YtkeommmigopnkaaGreatDoorRows
import Derived.ProofKit
import Derived.OpenShut
import Derived.ShutString
import Derived.ChangeOld
import Derived.Below
import Derived.Deep.Slices
import Derived.LaidMore
import Derived.LaidLaws
import Derived.ChangeVars
import Derived.Stop.Joined
import Derived.Test.YtkeommmigopnkaaGreatDoorKF2
import Derived.Test.YtkeommmigopnkaaGreatDoorKF4
import Derived.Test.YtkeommmigopnkaaGreatDoorKF6
set_option linter.unusedVariables false
set_option linter.unusedSimpArgs false
set_option maxHeartbeats 32000000
set_option maxRecDepth 100000
namespace Go.Proofs.YtkeommmigopnkaaGreatDoor
open Go.RowKit Go.Sx Go.ChangeShapes Go.WideShapes Go.ChangeAt
open Go.ChangeMaps (open_string shut_string)
theorem ownK:ownKnob Tryz.prog.godebug=none:=by kernel_rfl
theorem laidOut:laidOutB Tryz.prog=true:=by kernel_rfl
theorem addr_flat {w:World} {a:Addr} {u:Value} (h:w.cell? (a.add 0)=some u):∃ b off,a=⟨b,off,none⟩:=by
 have h:w.cell? a=some u:=by simpa [Addr.add] using h
 obtain ⟨b,off,s⟩:=a
 cases s with
 | none=>exact ⟨b,off,rfl⟩
 | some s =>
  unfold World.cell? at h
  split at h
  ·simp at h
  ·cases h
theorem rdN_of_open {κ:IntKind} {w:World} {a:Addr} {len cap:Nat} {zs:List Int} (hl:len≤cap) (hm:cap≤maxLen) (hz:zs.length=cap) (hc:∀ i,i<zs.length→w.cell? (a.add i)=some (.int κ (zs.getD i 0))) :
  RdN κ w (.slice (some a) len cap) (zs.take len):=by
 have hlen:(zs.take len).length=len:=by simp;omega
 by_cases h0:len=0
 ·subst h0;exact ⟨some a,cap,0,0,by simp,by simp,hm,fun h=>absurd (by simp) h,fun j hj=>absurd hj (by simp)⟩
 ·obtain ⟨b,off,rfl⟩:=addr_flat (hc 0 (by omega));refine ⟨_,cap,b,off,by rw [hlen],by omega,hm,fun _=>rfl,fun j hj=>?_⟩;have:=hc j (by omega);rw [Addr.add_lit] at this;rw [this]
  congr 2
  rw [hlen] at hj;simp [List.getD,hj]
section
variable {H:Type} {enc:TypeId×Value→H} {P:Program} {W:World} {base:Nat}
theorem trod_numbers {e:TypeId} {fs:Array Field} {κs:List IntKind} {fuel:Nat} {cs:List Value} {x:DataW H×List MemPlace} {spare:Nat→Bool} {held:Bool} (he:P.underlying e=some (.struct fs))
  (hfs:∀ c κ,κs[c]?=some κ→∃ g:Field,fs[c]?=some g∧g.offset=c∧P.underlying g.type=some (.int κ)∧P.cellsOf g.type=1) (ce:P.cellsOf e=κs.length)
  (h:DataW.trod enc P W base spare held fuel e cs=some x):∃ f:Nat→Int, ∀ c κ,κs[c]?=some κ→cs[c]?=some (.int κ (f c))∧(Lit.int κ (f c)).wf=true:=by
 obtain ⟨xs,n,_,_,hlen,hxl,hf⟩:=DataW.trod_struct he h;have each:∀ c,c<κs.length→∃ m:Int, ∀ κ,κs[c]?=some κ→cs[c]?=some (.int κ m)∧(Lit.int κ m).wf=true:=fun c hc=>by
  have hk:=List.getElem?_eq_getElem hc;obtain ⟨g,h1,h2,h3,h4⟩:=hfs c _ hk;have h5:=hf c g h1;rw [h2,h4] at h5;have hcl:c<cs.length:=by omega
  have h6:(cs.drop c).take 1=[cs[c]]:=by rw [List.drop_eq_getElem_cons hcl];rfl
  have hxc:c<xs.length:=by
   have:=(Array.getElem?_eq_some_iff.1 h1).1;omega
  rw [h6,List.getElem?_eq_getElem hxc] at h5;obtain ⟨m,e1,_,e3⟩:=DataW.trod_int h3 h5;refine ⟨m,fun κ hκ=>?_⟩;rw [hk] at hκ
  cases hκ
  simp only [List.cons.injEq,and_true] at e1;exact ⟨by rw [List.getElem?_eq_getElem hcl,e1],e3⟩
 obtain ⟨f,hf'⟩:=Go.Deep.choose_lt each;exact ⟨f,fun c κ hκ=>hf' c (List.getElem?_eq_some_iff.1 hκ).1 κ hκ⟩
theorem opened_structs {t e:TypeId} {fs:Array Field} {κs:List IntKind} {v:Value} {d:DataW H} {p:List MemPlace} (ht:P.underlying t=some (.slice e)) (he:P.underlying e=some (.struct fs))
  (hfs:∀ c κ,κs[c]?=some κ→∃ g:Field,fs[c]?=some g∧g.offset=c∧P.underlying g.type=some (.int κ)∧P.cellsOf g.type=1) (ce:P.cellsOf e=κs.length) (hpos:0<κs.length)
  (hok:Value.okWide P W .any base t v) (h:DataW.Trod enc P W 0 (fun _=>true) true t v d p) :
  ∃ n f,RdK κs W v n f∧n≤maxLen:=by
 obtain ⟨a,len,cap,rfl⟩:=okWide_slice ht hok;obtain ⟨fuel,hf⟩:=h
 rcases Go.Deep.open_slice ht hf with ⟨hcs,_⟩ | ⟨x,l,c,m,n,D,Pl,hcs,_,hl,hm,hmm,_,hx⟩
 ·simp [Value.cells] at hcs;obtain ⟨rfl,rfl,rfl⟩:=hcs;exact ⟨0,fun _ _=>0,⟨none,0,0,0,rfl,Nat.le_refl _,Nat.zero_le _,fun h=>absurd h (Nat.lt_irrefl _),fun i c κ hi=>absurd hi (Nat.not_lt_zero _)⟩,Nat.zero_le _⟩
 ·simp [Value.cells] at hcs;obtain ⟨rfl,rfl,rfl⟩:=hcs;simp at hmm;subst hmm;have each:∀ i,i<m→∃ f:Nat→Int, ∀ c κ,κs[c]?=some κ→W.cell? (x.add (i*κs.length+c))=some (.int κ (f c))∧(Lit.int κ (f c)).wf=true:=fun i hi=>by
   obtain ⟨cs',h1,h2⟩:=hx i hi;obtain ⟨_,hlen,hcell⟩:=World.cells?_some h1;obtain ⟨f,hf⟩:=trod_numbers he hfs ce h2;refine ⟨f,fun c κ hκ=>⟨?_,(hf c κ hκ).2⟩⟩;have hc:=hcell c (by rw [ce];exact (List.getElem?_eq_some_iff.1 hκ).1);rw [Go.Deep.add_add,ce] at hc;rw [hc];exact (hf c κ hκ).1
  obtain ⟨f,hf⟩:=Go.Deep.choose_lt (α:=Nat→Int) (p:=fun i f=>∀ c κ,κs[c]?=some κ→W.cell? (x.add (i*κs.length+c))=some (.int κ (f c))∧(Lit.int κ (f c)).wf=true) each;refine ⟨len,f,?_,by omega⟩
  by_cases h0:0<len
  ·obtain ⟨b,off,rfl⟩:=addr_flat (by simpa using (hf 0 (by omega) 0 _ (List.getElem?_eq_getElem hpos)).1);refine ⟨_,m,b,off,rfl,by omega,hm,fun _=>rfl,fun i c κ hi hκ=>?_⟩;have:=hf i (by omega) c κ hκ;rw [Addr.add_lit] at this;exact this
  ·exact ⟨_,m,0,0,rfl,by omega,hm,fun h=>absurd h h0,fun i c κ hi=>absurd hi (by omega)⟩
theorem trod_places {t:TypeId} {v:Value} {d:DataW H} {p:List MemPlace} (h:DataW.Trod enc P W 0 (fun _=>true) true t v d p):∀ x∈p,x.block<W.heap.size:=by
 obtain ⟨m,hm⟩:=h;exact DataW.trod_lt m _ _ _ hm
end
end Go.Proofs.YtkeommmigopnkaaGreatDoor
namespace Go.Proofs.YtkeommmigopnkaaGreatDoor
open Go.ChangeShapes Go.WideShapes Go.ChangeAt Go.RowKit Go.Sx
abbrev laidT : List (String × DataW Unit) := [("math/bits.deBruijn32tab", Rows.laid_math_bits_deBruijn32tab)]
theorem gTab : Tryz.prog.globalNamed "math/bits.deBruijn32tab" = some 0 := by kernel_rfl
theorem tTab : (Tryz.prog.globals[0]?).map (·.type) = some 264:=by kernel_rfl
theorem dTab:(Rows.laid_math_bits_deBruijn32tab:DataW Unit)=.agg (Lib.deBruijn32tab.map fun k:Nat=>DataW.lit (.int .u8 (k:Int))):=by kernel_rfl
theorem door_met (os:Os) (args:Array Value):laidMetH Tryz.prog laidT ((World.doorLaid Tryz.prog 400 os).forCall (fun _ _=>0) ⟨#[],args,[]⟩).memory :=
 laidMetH_of_parts (laidMet_of_run' 8 (by kernel_rfl) (by kernel_rfl)) (by kernel_rfl)
theorem tab_of_laid {W:World} (h:laidMetH Tryz.prog laidT W):Tab W:=by
 rw [MakeChecks.laidMetH_plain _ _ _ (by kernel_rfl)] at h;obtain ⟨ps,⟨g0,t0,cs0,f0,p0,q0,hg0,ht0,hv0,hd0,_,_⟩,_,_⟩:=h;obtain rfl:=Option.some.inj (gTab.symm.trans hg0);obtain rfl:=Option.some.inj (tTab.symm.trans ht0);obtain ⟨xs,m1,rfl,hx1,hlen,hn,hel⟩:=DataW.trod_array Tryz.underlying264 hd0;have c8:Tryz.prog.cellsOf 5=1:=by kernel_rfl
 rw [dTab] at hx1;simp only [Prod.mk.injEq,DataW.agg.injEq] at hx1;intro j hj;have hj32:j<32:=hj;have hxj:j<xs.length:=by omega
 have h0:=hel j hj32;rw [c8,Nat.mul_one,List.getElem?_eq_getElem hxj] at h0;obtain ⟨k,e1,e2,_⟩:=DataW.trod_int Tryz.underlying5 h0;have e3 : (xs.map (·.1))[j]? = (Lib.deBruijn32tab.map fun k : Nat=>(DataW.lit (.int .u8 (k : Int)) : DataW Unit))[j]?:=by rw [hx1.1]
 rw [List.getElem?_map,List.getElem?_map,List.getElem?_eq_getElem hxj,e2,List.getElem?_eq_getElem hj] at e3;simp only [Option.map_some,Option.some.injEq,DataW.lit.injEq,Lit.int.injEq,true_and] at e3;have hcell:=World.var?_cell hg0 hv0 j;have hl:j<cs0.toList.length:=by
  rcases Nat.lt_or_ge j cs0.toList.length with a | a
  ·exact a
  ·rw [List.drop_eq_nil_of_le a] at e1;simp at e1
 rw [List.drop_eq_getElem_cons hl] at e1;have e4:cs0.toList[j]=.int .u8 k:=by simpa using e1
 have hl2:j<cs0.size:=by simpa using hl
 rw [hcell,Array.getElem?_eq_getElem hl2];rw [show cs0[j]=.int .u8 k by simpa using e4,e3];simp [List.getD,hj]
end Go.Proofs.YtkeommmigopnkaaGreatDoor
namespace Go.Proofs.YtkeommmigopnkaaGreatDoor
open Go.RowKit Go.Sx Go.Dl Go.Lk Go.Rq Go.Au Go.ChangeShapes Go.WideShapes Go.ChangeAt
set_option linter.constructorNameAsVariable false
theorem wfw32 {n:Int} (h:(Lit.int .u32 n).wf=true):rngW n:=by
 have h1:(decide ((0:Int)≤n) && decide (n≤4294967295))=true:=h;simp only [Bool.and_eq_true,decide_eq_true_eq] at h1;exact ⟨by omega,by omega⟩
theorem wfw64 {n:Int} (h:(Lit.int .u64 n).wf=true):0≤n∧n<18446744073709551616:=by
 have h1:(decide ((0:Int)≤n) && decide (n≤18446744073709551615))=true:=h;simp only [Bool.and_eq_true,decide_eq_true_eq] at h1;omega
section
variable {H:Type} {enc:TypeId×Value→H} {P:Program} {W:World}
theorem trod_flds {t:TypeId} {fs:Array Field} {fuel:Nat} {cs:List Value} {x:DataW H×List MemPlace} (ht:P.underlying t=some (.struct fs)) (h:DataW.trod enc P W 0 (fun _=>true) true fuel t cs=some x) :
  cs.length=P.cellsOf t∧∀ (i:Nat) (f:Field),fs[i]?=some f→∃ n y,DataW.trod enc P W 0 (fun _=>true) true n f.type ((cs.drop f.offset).take (P.cellsOf f.type))=some y:=by
 obtain ⟨xs,n,_,_,hl,hx,hf⟩:=DataW.trod_struct ht h;refine ⟨hl,fun i f e=>⟨n,xs[i]'(by have:=(Array.getElem?_eq_some_iff.1 e).1;omega),?_⟩⟩;rw [hf i f e,List.getElem?_eq_getElem]
theorem take1 {cs:List Value} {o:Nat} (h:o<cs.length):(cs.drop o).take 1=[cs[o]]:=by
 rw [List.drop_eq_getElem_cons h];rfl
theorem fld_one {t:TypeId} {fs:Array Field} {fuel:Nat} {cs:List Value} {x:DataW H×List MemPlace} (ht:P.underlying t=some (.struct fs)) (h:DataW.trod enc P W 0 (fun _=>true) true fuel t cs=some x)
  {T:TypeId} {i o:Nat} (ho:o<P.cellsOf t) (hg:∃ g:Field,fs[i]?=some g∧g.offset=o∧g.type=T∧P.cellsOf T=1):∃ v n y,cs[o]?=some v∧DataW.trod enc P W 0 (fun _=>true) true n T [v]=some y:=by
 obtain ⟨hl,hf⟩:=trod_flds ht h;obtain ⟨g,h1,rfl,rfl,h4⟩:=hg;obtain ⟨n,y,h5⟩:=hf i g h1;have hlt:g.offset<cs.length:=by omega
 rw [h4,take1 hlt] at h5;exact ⟨_,n,y,List.getElem?_eq_getElem hlt,h5⟩
theorem fld_int {t:TypeId} {fs:Array Field} {fuel:Nat} {cs:List Value} {x:DataW H×List MemPlace} (ht:P.underlying t=some (.struct fs)) (h:DataW.trod enc P W 0 (fun _=>true) true fuel t cs=some x)
  {T:TypeId} {κ:IntKind} {i o:Nat} (ho:o<P.cellsOf t) (hT:P.underlying T=some (.int κ)) (hg:∃ g:Field,fs[i]?=some g∧g.offset=o∧g.type=T∧P.cellsOf T=1):∃ m:Int,cs[o]?=some (.int κ m)∧(Lit.int κ m).wf=true:=by
 obtain ⟨v,n,y,h1,h2⟩:=fld_one ht h ho hg;obtain ⟨m,e,_,hw⟩:=DataW.trod_int hT h2;simp only [List.cons.injEq,and_true] at e;exact ⟨m,by rw [h1,e],hw⟩
theorem trod_nums {t e:TypeId} {κ:IntKind} {n:Nat} {cs:List Value} {x:DataW H×List MemPlace} (ht:P.underlying t=some (.slice e)) (he:P.underlying e=some (.int κ)) (hc:P.cellsOf e=1)
  (h:DataW.trod enc P W 0 (fun _=>true) true n t cs=some x):∃ v l,cs=[v]∧RdN κ W v l∧∀ n∈l,(Lit.int κ n).wf=true:=by
 rcases open_ints ht he hc h with ⟨hcs,_⟩ | ⟨x,l,c,zs,hcs,_,hl,hm,hz,_,hcell,hwz⟩
 ·exact ⟨_,[],hcs,⟨none,0,0,0,rfl,Nat.le_refl _,Nat.zero_le _,fun h=>absurd rfl h,fun j hj=>absurd hj (Nat.not_lt_zero _)⟩,fun n hn=>(by cases hn)⟩
 ·exact ⟨_,_,hcs,rdN_of_open hl hm (by simpa using hz) hcell,fun n hn=>hwz n (List.mem_of_mem_take hn)⟩
theorem trod_recs {α:Type} {sz:Nat} [E:Enc α sz] {t e:TypeId} {fuel:Nat} {cs:List Value} {x:DataW H×List MemPlace} (ht:P.underlying t=some (.slice e)) (ce:P.cellsOf e=sz) {G:α→Prop}
  (he:∀ n cs x,DataW.trod enc P W 0 (fun _=>true) true n e cs=some x→∃ a:α,cs=E.enc a∧G a)
  (h:DataW.trod enc P W 0 (fun _=>true) true fuel t cs=some x):∃ v l,cs=[v]∧RdR W v l∧∀ a∈l,G a:=by
 rcases Go.Deep.open_slice ht h with ⟨hcs,_⟩ | ⟨a,len,cap,m,n,D,Pl,hcs,_,hl,hm,hmm,_,hx⟩
 ·exact ⟨_,[],hcs,rdR_nil W,fun a h=>by cases h⟩
 ·simp at hmm;subst hmm;have each:∀ i,i<m→∃ y:α,G y∧∀ c u,(E.enc y)[c]?=some u→W.cell? (a.add (i*sz+c))=some u:=fun i hi=>by
   obtain ⟨cs',h1,h2⟩:=hx i hi;obtain ⟨_,hlen,hcell⟩:=World.cells?_some h1;obtain ⟨y,rfl,hG⟩:=he _ _ _ h2;refine ⟨y,hG,fun c u hu=>?_⟩;have hc:=hcell c (by rw [ce,← E.len y];exact (List.getElem?_eq_some_iff.1 hu).1);rw [Go.Deep.add_add,ce] at hc;rw [hc];exact hu
  haveI:Inhabited α:=⟨E.dft⟩;obtain ⟨f,hf⟩:=Go.Deep.choose_lt each;have hsz:=E.pos;refine ⟨_,(List.range len).map f,hcs,?_,fun y hy=>?_⟩
  ·by_cases h0:0<len
   ·have hpos:0<(E.enc (f 0)).length:=by rw [E.len];exact hsz
    obtain ⟨b,off,rfl⟩:=addr_flat (by simpa using (hf 0 (by omega)).2 0 _ (List.getElem?_eq_getElem hpos));refine ⟨_,m,b,off,by simp,by simpa using hl,hm,fun _=>rfl,fun j u hj=>?_⟩;have hjl:=(List.getElem?_eq_some_iff.1 hj).1;rw [cellsOf_len,List.length_map,List.length_range] at hjl;have e1:j=j / sz*sz+j%sz:=by rw [Nat.mul_comm];exact (Nat.div_add_mod j sz).symm
    have hk:j / sz<len:=(Nat.div_lt_iff_lt_mul hsz).2 hjl;have hc:j%sz<sz:=Nat.mod_lt _ hsz;rw [e1] at hj;rw [cellsOf_at (by simpa using hk) hc] at hj;have hg:((List.range len).map f).getD (j / sz) E.dft=f (j / sz):=by simp [List.getD,hk]
    rw [hg] at hj;have:=(hf (j / sz) (by omega)).2 _ u hj;rw [← e1,Addr.add_lit] at this;exact this
   ·have:len=0:=by omega
    subst this;exact ⟨some a,m,0,0,rfl,by simp,hm,fun h=>absurd (by simp) h,fun j u hj=>by simp [cellsOf] at hj⟩
  ·rw [List.mem_map] at hy;obtain ⟨i,hi,rfl⟩:=hy;exact (hf i (by have:=List.mem_range.1 hi;omega)).1
end
section
variable {H:Type} {enc:TypeId×Value→H} {W:World}
theorem cs6 {cs:List Value} {a b c d e f:Value} (hl:cs.length=6) (h0:cs[0]?=some a) (h1:cs[1]?=some b) (h2:cs[2]?=some c) (h3:cs[3]?=some d) (h4:cs[4]?=some e) (h5:cs[5]?=some f):cs=[a,b,c,d,e,f]:=by
 match cs,hl with
 | [_,_,_,_,_,_],_=>simp_all
theorem cs2 {cs:List Value} {a b:Value} (hl:cs.length=2) (h0:cs[0]?=some a) (h1:cs[1]?=some b):cs=[a,b]:=by
 match cs,hl with
 | [_,_],_=>simp_all
theorem cs12 {cs:List Value} {a b c d e f g h i j k l:Value} (hl:cs.length=12) (h0:cs[0]?=some a) (h1:cs[1]?=some b) (h2:cs[2]?=some c) (h3:cs[3]?=some d) (h4:cs[4]?=some e) (h5:cs[5]?=some f)
  (h6:cs[6]?=some g) (h7:cs[7]?=some h) (h8:cs[8]?=some i) (h9:cs[9]?=some j) (h10:cs[10]?=some k) (h11:cs[11]?=some l):cs=[a,b,c,d,e,f,g,h,i,j,k,l]:=by
 match cs,hl with
 | [_,_,_,_,_,_,_,_,_,_,_,_],_=>simp_all
abbrev Trd (enc:TypeId×Value→H) (W:World) (n:Nat) (t:TypeId) (cs:List Value) (x:DataW H×List MemPlace):Prop:=DataW.trod enc Tryz.prog W 0 (fun _=>true) true n t cs=some x
theorem trod_ins (n:Nat) (cs:List Value) (x:DataW H×List MemPlace) (h:Trd enc W n 107 cs x):∃ i:Ins,cs=encIns.enc i∧rngW i.k:=by
 have hu:=Tryz.underlying107;have hs:Tryz.prog.cellsOf 107=6:=by kernel_rfl
 have hi:Tryz.prog.underlying 3=some (.int .i64):=Tryz.underlying3;have hk:Tryz.prog.underlying 25=some (.int .u32):=Tryz.underlying25;have ci:Tryz.prog.cellsOf 3=1:=by kernel_rfl
 have ck:Tryz.prog.cellsOf 25=1:=by kernel_rfl
 obtain ⟨m0,a0,_⟩:=fld_int hu h (i:=0) (o:=0) (by rw [hs];decide) hi ⟨_,rfl,rfl,rfl,ci⟩;obtain ⟨m1,a1,_⟩:=fld_int hu h (i:=1) (o:=1) (by rw [hs];decide) hi ⟨_,rfl,rfl,rfl,ci⟩;obtain ⟨m2,a2,_⟩:=fld_int hu h (i:=2) (o:=2) (by rw [hs];decide) hi ⟨_,rfl,rfl,rfl,ci⟩;obtain ⟨m3,a3,_⟩:=fld_int hu h (i:=3) (o:=3) (by rw [hs];decide) hi ⟨_,rfl,rfl,rfl,ci⟩;obtain ⟨m4,a4,_⟩:=fld_int hu h (i:=4) (o:=4) (by rw [hs];decide) hi ⟨_,rfl,rfl,rfl,ci⟩;obtain ⟨m5,a5,w5⟩:=fld_int hu h (i:=5) (o:=5) (by rw [hs];decide) hk ⟨_,rfl,rfl,rfl,ck⟩;exact ⟨⟨m0,m1,m2,m3,m4,m5⟩,cs6 ((trod_flds hu h).1.trans hs) a0 a1 a2 a3 a4 a5,wfw32 w5⟩
theorem trod_code {n:Nat} {v:Value} {x:DataW H×List MemPlace} (h:Trd enc W n 95 [v] x):∃ l:List Ins,RdR W v l∧∀ i∈l,rngW i.k:=by
 obtain ⟨v',l,e,hr,hG⟩:=trod_recs (E:=encIns) Tryz.underlying95 (by kernel_rfl) trod_ins h;simp only [List.cons.injEq,and_true] at e;subst e;exact ⟨l,hr,hG⟩
theorem rdR_form {α:Type} {sz:Nat} [E:Enc α sz] {w:World} {v:Value} {l:List α} (h:RdR w v l):∃ a n c,v=.slice a n c:=by
 obtain ⟨a,cap,b,off,e,_⟩:=h;exact ⟨_,_,_,e⟩
theorem trod_task (n:Nat) (cs:List Value) (x:DataW H×List MemPlace) (h:Trd enc W n 97 cs x):∃ t:Tv,cs=encTv.enc t∧∃ l:List Ins,RdR W t.cv l∧∀ i∈l,rngW i.k:=by
 have hu:=Tryz.underlying97;have hs:Tryz.prog.cellsOf 97=6:=by kernel_rfl
 have hi:Tryz.prog.underlying 3=some (.int .i64):=Tryz.underlying3;have ci:Tryz.prog.cellsOf 3=1:=by kernel_rfl
 have ck:Tryz.prog.cellsOf 95=1:=by kernel_rfl
 obtain ⟨m0,a0,_⟩:=fld_int hu h (i:=0) (o:=0) (by rw [hs];decide) hi ⟨_,rfl,rfl,rfl,ci⟩;obtain ⟨m1,a1,_⟩:=fld_int hu h (i:=1) (o:=1) (by rw [hs];decide) hi ⟨_,rfl,rfl,rfl,ci⟩;obtain ⟨m2,a2,_⟩:=fld_int hu h (i:=2) (o:=2) (by rw [hs];decide) hi ⟨_,rfl,rfl,rfl,ci⟩;obtain ⟨m3,a3,_⟩:=fld_int hu h (i:=3) (o:=3) (by rw [hs];decide) hi ⟨_,rfl,rfl,rfl,ci⟩;obtain ⟨m4,a4,_⟩:=fld_int hu h (i:=4) (o:=4) (by rw [hs];decide) hi ⟨_,rfl,rfl,rfl,ci⟩;obtain ⟨v,n',y,a5,h5⟩:=fld_one hu h (i:=5) (o:=5) (by rw [hs];decide) ⟨_,rfl,rfl,rfl,ck⟩;obtain ⟨l,hr,hk⟩:=trod_code h5;obtain ⟨ca,cn,cc,rfl⟩:=rdR_form hr;exact ⟨⟨m0,m1,m2,m3,m4,ca,cn,cc⟩,cs6 ((trod_flds hu h).1.trans hs) a0 a1 a2 a3 a4 a5,l,hr,hk⟩
theorem trod_line (n:Nat) (cs:List Value) (x:DataW H×List MemPlace) (h:Trd enc W n 110 cs x):∃ t:Lv,cs=encLv.enc t∧∃ l:List Ins,RdR W t.cv l∧∀ i∈l,rngW i.k:=by
 have hu:=Tryz.underlying110;have hs:Tryz.prog.cellsOf 110=2:=by kernel_rfl
 have hi:Tryz.prog.underlying 3=some (.int .i64):=Tryz.underlying3;have ci:Tryz.prog.cellsOf 3=1:=by kernel_rfl
 have ck:Tryz.prog.cellsOf 95=1:=by kernel_rfl
 obtain ⟨m0,a0,_⟩:=fld_int hu h (i:=0) (o:=0) (by rw [hs];decide) hi ⟨_,rfl,rfl,rfl,ci⟩;obtain ⟨v,n',y,a5,h5⟩:=fld_one hu h (i:=1) (o:=1) (by rw [hs];decide) ⟨_,rfl,rfl,rfl,ck⟩;obtain ⟨l,hr,hk⟩:=trod_code h5;obtain ⟨ca,cn,cc,rfl⟩:=rdR_form hr;exact ⟨⟨m0,ca,cn,cc⟩,cs2 ((trod_flds hu h).1.trans hs) a0 a5,l,hr,hk⟩
theorem mk_tasks {l:List Tv} (h:∀ t∈l, ∃ k:List Ins,RdR W t.cv k∧∀ i∈k,rngW i.k):∃ ts:List Tc,l.length=ts.length∧∀ t,t<ts.length→IsT W (l.getD t tv0) (ts.getD t tc0)∧∀ i∈(ts.getD t tc0).code,rngW i.k:=by
 induction l with
 | nil=>exact ⟨[],rfl,fun t ht=>absurd ht (by simp)⟩
 | cons a l ih =>
  obtain ⟨ts,e,hi⟩:=ih fun t ht=>h t (List.mem_cons_of_mem _ ht);obtain ⟨k,hr,hk⟩:=h a (List.mem_cons_self ..);refine ⟨⟨a.lev,a.off,a.per,a.dl,a.mem,k⟩::ts,by simp [e],fun t ht=>?_⟩
  cases t with
  | zero=>exact ⟨⟨rfl,rfl,rfl,rfl,rfl,hr⟩,hk⟩
  | succ t =>
   have:=hi t (by simpa using ht)
   simpa [List.getD] using this
theorem mk_lines {l:List Lv} (h:∀ t∈l, ∃ k:List Ins,RdR W t.cv k∧∀ i∈k,rngW i.k):∃ ts:List Lc,l.length=ts.length∧∀ t,t<ts.length→IsL W (l.getD t lv0) (ts.getD t lc0)∧∀ i∈(ts.getD t lc0).code,rngW i.k:=by
 induction l with
 | nil=>exact ⟨[],rfl,fun t ht=>absurd ht (by simp)⟩
 | cons a l ih =>
  obtain ⟨ts,e,hi⟩:=ih fun t ht=>h t (List.mem_cons_of_mem _ ht);obtain ⟨k,hr,hk⟩:=h a (List.mem_cons_self ..);refine ⟨⟨a.mem,k⟩::ts,by simp [e],fun t ht=>?_⟩
  cases t with
  | zero=>exact ⟨⟨rfl,hr⟩,hk⟩
  | succ t =>
   have:=hi t (by simpa using ht)
   simpa [List.getD] using this
theorem opened_conf {base:Nat} {v:Value} {d:DataW H} {p:List MemPlace} (hok:Value.okWide Tryz.prog W .any base 28 v) (h:DataW.Trod enc Tryz.prog W 0 (fun _=>true) true 28 v d p) :
  ∃ c:Cf,RdCf W v c∧CfRng c:=by
 have hu:=Tryz.underlying28;have hs:Tryz.prog.cellsOf 28=12:=by kernel_rfl
 have hi:Tryz.prog.underlying 3=some (.int .i64):=Tryz.underlying3;have hk:Tryz.prog.underlying 25=some (.int .u32):=Tryz.underlying25;have hq:Tryz.prog.underlying 26=some (.int .u64):=Tryz.underlying26;have ci:Tryz.prog.cellsOf 3=1:=by kernel_rfl
 have ck:Tryz.prog.cellsOf 25=1:=by kernel_rfl
 have cq:Tryz.prog.cellsOf 26=1:=by kernel_rfl
 have cn:Tryz.prog.cellsOf 24=1:=by kernel_rfl
 have ct:Tryz.prog.cellsOf 22=1:=by kernel_rfl
 have cl:Tryz.prog.cellsOf 23=1:=by kernel_rfl
 obtain ⟨cs,rfl,hsz⟩:=okWide_struct hu hok;obtain ⟨fuel,h⟩:=h;have h:DataW.trod enc Tryz.prog W 0 (fun _=>true) true fuel 28 cs.toList=some (d,p):=h;obtain ⟨v0,n0,y0,a0,h0⟩:=fld_one hu h (i:=0) (o:=0) (by rw [hs];decide) ⟨_,rfl,rfl,rfl,ct⟩;obtain ⟨v1,n1,y1,a1,h1⟩:=fld_one hu h (i:=1) (o:=1) (by rw [hs];decide) ⟨_,rfl,rfl,rfl,cl⟩;obtain ⟨m2,a2,_⟩:=fld_int hu h (i:=2) (o:=2) (by rw [hs];decide) hi ⟨_,rfl,rfl,rfl,ci⟩;obtain ⟨v3,n3,y3,a3,h3⟩:=fld_one hu h (i:=3) (o:=3) (by rw [hs];decide) ⟨_,rfl,rfl,rfl,cn⟩;obtain ⟨v4,n4,y4,a4,h4⟩:=fld_one hu h (i:=4) (o:=4) (by rw [hs];decide) ⟨_,rfl,rfl,rfl,cn⟩;obtain ⟨v5,n5,y5,a5,h5⟩:=fld_one hu h (i:=5) (o:=5) (by rw [hs];decide) ⟨_,rfl,rfl,rfl,cn⟩;obtain ⟨m6,a6,_⟩:=fld_int hu h (i:=6) (o:=6) (by rw [hs];decide) hi ⟨_,rfl,rfl,rfl,ci⟩;obtain ⟨m7,a7,w7⟩:=fld_int hu h (i:=7) (o:=7) (by rw [hs];decide) hk ⟨_,rfl,rfl,rfl,ck⟩;obtain ⟨m8,a8,w8⟩:=fld_int hu h (i:=8) (o:=8) (by rw [hs];decide) hk ⟨_,rfl,rfl,rfl,ck⟩;obtain ⟨m9,a9,_⟩:=fld_int hu h (i:=9) (o:=9) (by rw [hs];decide) hi ⟨_,rfl,rfl,rfl,ci⟩;obtain ⟨m10,a10,w10⟩:=fld_int hu h (i:=10) (o:=10) (by rw [hs];decide) hq ⟨_,rfl,rfl,rfl,cq⟩;obtain ⟨m11,a11,w11⟩:=fld_int hu h (i:=11) (o:=11) (by rw [hs];decide) hq ⟨_,rfl,rfl,rfl,cq⟩;have hcs:=cs12 ((trod_flds hu h).1.trans hs) a0 a1 a2 a3 a4 a5 a6 a7 a8 a9 a10 a11;obtain ⟨_,T,e0,hT,hTk⟩:=trod_recs (E:=encTv) Tryz.underlying22 (by kernel_rfl) trod_task h0;obtain ⟨_,L,e1,hL,hLk⟩:=trod_recs (E:=encLv) Tryz.underlying23 (by kernel_rfl) trod_line h1;obtain ⟨_,S,e3,hS,_⟩:=trod_nums Tryz.underlying24 hi ci h3;obtain ⟨_,Q,e4,hQ,_⟩:=trod_nums Tryz.underlying24 hi ci h4;obtain ⟨_,M,e5,hM,_⟩:=trod_nums Tryz.underlying24 hi ci h5;simp only [List.cons.injEq,and_true] at e0 e1 e3 e4 e5;subst e0;subst e1;subst e3;subst e4;subst e5;obtain ⟨ts,lt,ht⟩:=mk_tasks hTk;obtain ⟨ls,ll,hl⟩:=mk_lines hLk;have r7:=wfw32 w7;have r8:=wfw32 w8;have g7:((m7.toNat:Nat):Int)=m7:=Int.toNat_of_nonneg r7.1;have g8:((m8.toNat:Nat):Int)=m8:=Int.toNat_of_nonneg r8.1;refine ⟨⟨ts,ls,m2,S,Q,M,m6,m7.toNat,m8.toNat,m9,m10,m11⟩,⟨_,_,_,_,_,?_,⟨T,hT,lt,fun t h=>(ht t h).1⟩,⟨L,hL,ll,fun t h=>(hl t h).1⟩,hS,hQ,hM⟩,⟨fun t h=>(ht t h).2,fun t h=>(hl t h).2,?_,?_,wfw64 w10,wfw64 w11⟩⟩
 ·rw [← Array.toArray_toList (xs:=cs),hcs];show Value.agg _=Value.agg _;rw [g7,g8]
 ·have:=r7.2;show m7.toNat<_;omega
 ·have:=r8.2;show m8.toNat<_;omega
end
end Go.Proofs.YtkeommmigopnkaaGreatDoor
