/-
  Parts of the proof: MapS HistP StP StT RegionF Struct JbA StA StB MapT StC StL StD MapU.
-/
import Derived.Laws.IdiomRangeMap
import Derived.Deep.MidRow
import Derived.WalkMore
import Derived.Test.YtkeommmigopnkaaGreatDoorKF2
import Derived.Test.YtkeommmigopnkaaGreatDoorKF3
import Derived.Test.YtkeommmigopnkaaGreatDoorKF8
import Derived.Test.YtkeommmigopnkaaGreatDoorKF9
set_option linter.unusedVariables false
set_option linter.unusedSimpArgs false
set_option maxHeartbeats 32000000
set_option maxRecDepth 100000
namespace Go.Sx
open Go.RowKit Go.MapKept
def MapIs (es:Array MapEntry) (c:Nat) (M:Int→Option Int):Prop :=
 Stamped es c∧(∀ e∈es.toList, ∃ k v,e.key=.int .u32 k∧e.val=.int .i64 v∧M k=some v)∧∀ k v,M k=some v→∃ e∈es.toList,e.key=.int .u32 k∧e.val=.int .i64 v
def mpP (b:Nat) (M:Int→Option Int):HP:=ex fun x:Array MapEntry×Nat=>pur (MapIs x.1 x.2 M)*mapP b x.1 x.2
def mput (M:Int→Option Int) (k:Int) (v:Option Int):Int→Option Int:=fun x=>if x=k then v else M x
section
variable {P:Program} {w0 w:World} {F:HP} {b c:Nat} {es:Array MapEntry} {M:Int→Option Int}
theorem Sat.mp_out (hs:Sat w0 w (mpP b M*F)):∃ es c,MapIs es c M∧Sat w0 w (mapP b es c*F):=by
 obtain ⟨⟨es,c⟩,h⟩:=hs.ex_out;obtain ⟨h1,h2⟩:=(h.perm (star_assoc _ _ _)).pur_out;exact ⟨es,c,h1,h2⟩
theorem Sat.mp_in (h:MapIs es c M) (hs:Sat w0 w (mapP b es c*F)):Sat w0 w (mpP b M*F) :=
 Sat.ex_in (f:=fun x:Array MapEntry×Nat=>pur (MapIs x.1 x.2 M)*mapP b x.1 x.2) (es,c) ((Sat.pur_in h hs).perm (star_assoc _ _ _).symm)
theorem Sat.map_set (hs:Sat w0 w (mapP b es c*F)) (es':Array MapEntry) (c':Nat):Sat w0 { w with heap:=w.heap.setIfInBounds b (.map es' c') } (mapP b es' c'*F):=by
 have hb:=hs.map_at;have ha:=hs.map_above;obtain ⟨k1,k2⟩:=heap_set (o':=.map es' c') hb;refine Sat.put (ss:=[.map es c]) hs (j:=0) Nat.zero_lt_one (.map es' c') ?_ ⟨rfl,k1⟩ ?_
 ·exact hs.below.trans ⟨rfl,rfl,rfl,by simp,fun i hi=>k2 i (by omega)⟩
 ·intro g p x hne hx
  by_cases hg:g=b
  ·subst hg
   cases x with
   | cell v=>have:=hx.1;unfold World.cell? at this;rw [hb] at this;cases this
   | map e1 c1=>exact absurd ⟨rfl,by rw [hx.1]⟩ hne
  ·cases x with
   | cell v =>
    have h1:=hx.1;have h2:=hx.2;refine ⟨?_,?_⟩
    ·unfold World.cell? at h1 ⊢;dsimp only at h1 ⊢;rw [k2 g hg];exact h1
    ·unfold World.frozen? at h2 ⊢;dsimp only at h2 ⊢;rw [k2 g hg];exact h2
   | map e1 c1=>exact ⟨hx.1,(k2 g hg).trans hx.2⟩
theorem isKey_u (k:Int):IsKey (.int .u32) (.int .u32 k):=rfl
theorem MapIs.keys (h:MapIs es c M):∀ x∈es.toList,IsKey (.int .u32) x.key:=fun x hx=>by
 obtain ⟨k,v,e,_⟩:=h.2.1 x hx;rw [e];rfl
theorem mapIs_none (c:Nat):MapIs #[] c (fun _=>none):=⟨stamped_empty c,by simp,fun k v h=>by cases h⟩
theorem mapIs_push (h:MapIs es c M) {k:Int} (v:Int) (hk:∀ x∈es.toList,x.key≠.int .u32 k):MapIs (es.push { key:=.int .u32 k,val:=.int .i64 v,born:=c }) (c+1) (mput M k (some v)):=by
 have hnk:M k=none:=by
  cases e:M k with
  | none=>rfl
  | some u=>obtain ⟨x,hx,h1,_⟩:=h.2.2 k u e;exact absurd h1 (hk x hx)
 refine ⟨stamped_push h.1 hk,fun e he=>?_,fun j u hj=>?_⟩
 ·simp only [Array.toList_push,List.mem_append,List.mem_singleton] at he
  rcases he with he | rfl
  ·obtain ⟨j,u,h1,h2,h3⟩:=h.2.1 e he;refine ⟨j,u,h1,h2,?_⟩;unfold mput;rw [if_neg (by rintro rfl;rw [hnk] at h3;cases h3)];exact h3
  ·exact ⟨k,v,rfl,rfl,if_pos rfl⟩
 ·unfold mput at hj;simp only [Array.toList_push,List.mem_append,List.mem_singleton]
  by_cases e:j=k
  ·subst e;rw [if_pos rfl] at hj;cases hj;exact ⟨_,.inr rfl,rfl,rfl⟩
  ·rw [if_neg e] at hj;obtain ⟨x,hx,h1,h2⟩:=h.2.2 j u hj;exact ⟨x,.inl hx,h1,h2⟩
theorem key_idx (h:Stamped es c) {i j:Nat} {x y:MapEntry} (hi:es[i]?=some x) (hj:es[j]?=some y) (e:x.key=y.key):i=j:=by
 have h3:=h.2.2;have a1 : (es.toList.map (·.key))[i]? = some x.key:=by rw [List.getElem?_map,Array.getElem?_toList,hi];rfl
 have a2 : (es.toList.map (·.key))[j]? = some x.key:=by rw [List.getElem?_map,Array.getElem?_toList,hj,e];rfl
 have l1:=(List.getElem?_eq_some_iff.1 a1).1;exact (List.getElem?_inj l1 h3).1 (a1.trans a2.symm)
theorem mapIs_over (h:MapIs es c M) {k:Int} (v:Int) {i:Nat} {x:MapEntry} (hi:es[i]?=some x) (hx:x.key=.int .u32 k):MapIs (es.modify i fun e=>{ e with key:=.int .u32 k,val:=.int .i64 v }) c (mput M k (some v)):=by
 have get:∀ j,(es.modify i fun e=>{ e with key:=.int .u32 k,val:=.int .i64 v })[j]?=if i=j then some { x with key:=.int .u32 k,val:=.int .i64 v } else es[j]?:=fun j=>by
  rw [Array.getElem?_modify]
  by_cases e:i=j
  ·subst e;simp [hi]
  ·simp [e]
 refine ⟨stamped_modify h.1 i _ (fun _ _=>rfl) (fun e _ he=>by rw [hi] at he;cases he;exact hx.symm),fun e he=>?_,fun j u hj=>?_⟩
 ·obtain ⟨j,hj⟩:=List.getElem?_of_mem he;rw [Array.getElem?_toList,get] at hj
  by_cases e1:i=j
  ·rw [if_pos e1] at hj;cases hj;exact ⟨k,v,rfl,rfl,if_pos rfl⟩
  ·rw [if_neg e1] at hj;have hm:e∈es.toList:=by rw [← Array.getElem?_toList] at hj;exact List.mem_of_getElem? hj
   obtain ⟨j',u,h1,h2,h3⟩:=h.2.1 e hm;refine ⟨j',u,h1,h2,?_⟩;unfold mput;rw [if_neg ?_];exact h3;rintro rfl;exact e1 (key_idx h.1 hi hj (hx.trans h1.symm))
 ·unfold mput at hj
  by_cases e:j=k
  ·subst e;rw [if_pos rfl] at hj;cases hj;exact ⟨_,by rw [Array.mem_toList_iff];exact Array.mem_of_getElem? ((get i).trans (if_pos rfl)),rfl,rfl⟩
  ·rw [if_neg e] at hj;obtain ⟨y,hy,h1,h2⟩:=h.2.2 j u hj;obtain ⟨n,hn⟩:=List.getElem?_of_mem hy;rw [Array.getElem?_toList] at hn;have hne:i≠n:=by
    rintro rfl;rw [hi] at hn;cases hn;rw [hx] at h1;cases h1;exact e rfl
   exact ⟨y,by rw [Array.mem_toList_iff];exact Array.mem_of_getElem? ((get n).trans ((if_neg hne).trans hn)),h1,h2⟩
theorem erase_get (i j:Nat):(es.eraseIdxIfInBounds i)[j]?=if j<i then es[j]? else es[j+1]?:=by
 rw [← Array.getElem?_toList];unfold Array.eraseIdxIfInBounds
 split
 ·rename_i h
  rw [Array.toList_eraseIdx,List.getElem?_eraseIdx];simp only [Array.getElem?_toList]
 ·rename_i h
  rw [Array.getElem?_toList]
  split
  ·rfl
  ·rw [Array.getElem?_eq_none (by omega),Array.getElem?_eq_none (by omega)]
theorem mapIs_drop (h:MapIs es c M) {k:Int} {i:Nat} {x:MapEntry} (hi:es[i]?=some x) (hx:x.key=.int .u32 k):MapIs (es.eraseIdxIfInBounds i) c (mput M k none):=by
 refine ⟨stamped_erase h.1 i,fun e he=>?_,fun j u hj=>?_⟩
 ·obtain ⟨j,hj⟩:=List.getElem?_of_mem he;rw [Array.getElem?_toList,erase_get] at hj;obtain ⟨n,hn,hni⟩:∃ n,es[n]?=some e∧n≠i:=by
   by_cases hl:j<i
   ·rw [if_pos hl] at hj;exact ⟨j,hj,by omega⟩
   ·rw [if_neg hl] at hj;exact ⟨j+1,hj,by omega⟩
  have hm:e∈es.toList:=by rw [Array.mem_toList_iff];exact Array.mem_of_getElem? hn
  obtain ⟨j',u,h1,h2,h3⟩:=h.2.1 e hm;refine ⟨j',u,h1,h2,?_⟩;unfold mput;rw [if_neg ?_];exact h3;rintro rfl;exact hni (key_idx h.1 hn hi (h1.trans hx.symm))
 ·unfold mput at hj
  by_cases e:j=k
  ·rw [if_pos e] at hj;cases hj
  ·rw [if_neg e] at hj;obtain ⟨y,hy,h1,h2⟩:=h.2.2 j u hj;obtain ⟨n,hn⟩:=List.getElem?_of_mem hy;rw [Array.getElem?_toList] at hn;have hne:i≠n:=by
    rintro rfl;rw [hi] at hn;cases hn;rw [hx] at h1;cases h1;exact e rfl
   refine ⟨y,?_,h1,h2⟩;rw [Array.mem_toList_iff]
   by_cases hl:n<i
   ·exact Array.mem_of_getElem? ((erase_get i n).trans ((if_pos hl).trans hn):(es.eraseIdxIfInBounds i)[n]?=some y)
   ·refine Array.mem_of_getElem? (i:=n-1) ?_;rw [erase_get,if_neg (by omega),show n-1+1=n by omega,hn]
theorem run_mapNew (t:TypeId):(Instr.makeMap t none).run P w=.ok (.map (some w.heap.size)) (w.alloc (.map #[] 0)):=by
 simp [Instr.makeMap]
theorem Sat.mp_new (hs:Sat w0 w F):Sat w0 (w.alloc (.map #[] 0)) (mpP w.heap.size (fun _=>none)*F):=Sat.mp_in (mapIs_none 0) (hs.map_new #[] 0)
theorem run_mapPut {t kt et:TypeId} (ht:P.underlying t=some (.map kt et)) (hk:P.underlying kt=some (.int .u32)) (hs:Sat w0 w (mpP b M*F)) (k v:Int) :
  ∃ w',(Instr.mapUpdate t (.map (some b)) (.int .u32 k) (.int .i64 v)).run P w=.ok () w'∧Sat w0 w' (mpP b (mput M k (some v))*F):=by
 obtain ⟨es,c,h,hs⟩:=hs.mp_out;have hb:=hs.map_at
 rcases findNow_spec (isKey_u k) es.toList 0 h.keys with ⟨h1,h2⟩ | ⟨j,e,h1,h2,h3⟩
 ·refine ⟨_,?_,Sat.mp_in (mapIs_push h v h2) (hs.map_set _ _)⟩;simp only [Instr.mapUpdate,Sem.run_bind,run_underlying ht,Result.andThen,MapKept.run_getObj_map hb,run_checkKey hk (isKey_u k),run_findKey hk h1,run_setObj_map _ hb]
 ·have hi:es[j]?=some e:=by rw [← Array.getElem?_toList];exact h2
  refine ⟨_,?_,Sat.mp_in (mapIs_over h v hi h3) (hs.map_set _ _)⟩;simp only [Instr.mapUpdate,Sem.run_bind,run_underlying ht,Result.andThen,MapKept.run_getObj_map hb,run_checkKey hk (isKey_u k),run_findKey hk h1,Nat.zero_add,hi,Option.map_some,Option.getD_some,h3,run_keyThatStays (d:=.int .u32) (isKey_u k),run_setObj_map _ hb]
theorem run_mapDrop {t kt et ty:TypeId} (ht:P.underlying t=some (.map kt et)) (hk:P.underlying kt=some (.int .u32)) (hs:Sat w0 w (mpP b M*F)) (k:Int) :
  ∃ w',(Builtin.delete_ #[t,kt] ty #[.map (some b),.int .u32 k]).run P w=.ok (.tuple #[]) w'∧Sat w0 w' (mpP b (mput M k none)*F):=by
 obtain ⟨es,c,h,hs⟩:=hs.mp_out;have hb:=hs.map_at
 rcases findNow_spec (isKey_u k) es.toList 0 h.keys with ⟨h1,h2⟩ | ⟨j,e,h1,h2,h3⟩
 ·refine ⟨_,?_,Sat.mp_in (es:=es) (c:=c) ?_ (hs.map_set _ _)⟩
  ·simp [Builtin.delete_,Sem.run_bind,run_underlying ht,Result.andThen,MapKept.run_getObj_map hb,run_checkKey hk (isKey_u k),run_findKey hk h1,run_setObj_map _ hb]
  ·refine ⟨h.1,fun e he=>?_,fun j u hj=>?_⟩
   ·obtain ⟨j,u,e1,e2,e3⟩:=h.2.1 e he;refine ⟨j,u,e1,e2,?_⟩;unfold mput;rw [if_neg (by rintro rfl;exact h2 e he e1)];exact e3
   ·unfold mput at hj
    by_cases e:j=k
    ·rw [if_pos e] at hj;cases hj
    ·rw [if_neg e] at hj;exact h.2.2 j u hj
 ·have hi:es[j]?=some e:=by rw [← Array.getElem?_toList];exact h2
  refine ⟨_,?_,Sat.mp_in (mapIs_drop h hi h3) (hs.map_set _ _)⟩;simp [Builtin.delete_,Sem.run_bind,run_underlying ht,Result.andThen,MapKept.run_getObj_map hb,run_checkKey hk (isKey_u k),run_findKey hk h1,Nat.zero_add,run_setObj_map _ hb]
end
end Go.Sx
namespace Go.Hi
def at_ (l:List Int) (k:Nat):Int:=l.getD k 0
def Up (l:List Int):Prop:=∀ j,j+1<l.length→at_ l j<at_ l (j+1)
theorem Up.mono {l:List Int} (h:Up l):∀ {i j:Nat}, i≤j→j<l.length→at_ l i≤at_ l j := by
  intro i j hij
  induction j with
  | zero => intro _; have:i=0 := by omega
            subst this; exact Int.le_refl _
  | succ j ih =>
    intro hj
    rcases Nat.lt_or_ge i (j+1) with g | g
    · have := ih (by omega) (by omega); have := h j hj; omega
    · have:i=j+1 := by omega
      subst this; exact Int.le_refl _
def top:Int:=18446744073709551615
structure Jb where
 task:Int
 num:Int
 rel:Int
 fin:Int
 ended:Bool
 missed:Bool
 lower:Int
 bound:Int
 tidy:Bool
def jb0:Jb:=⟨0,0,0,0,false,false,0,0,false⟩
def jg (l:List Jb) (k:Nat):Jb:=l.getD k jb0
end Go.Hi
namespace Go.St
open Go.Au Go.Hi Go.Sx
structure Sk where
 lev:Int
 idle:Bool
 rdy:Bool
 on:Nat
 gone:Bool
 owns:Int
 secs:Int
 opn:Nat
 len:Int
 lng:Int
 ran:Int
 tak:Int
 dl:Int
def sk0:Sk:=⟨0,false,false,0,false,0,0,0,0,0,0,0,0⟩
def sg (l:List Sk) (k:Nat):Sk:=l.getD k sk0
structure Bk where
 ts:List Sk
 ow:Int→Option Int
 run:Int
 ent:Bool
 jb:List Jb
abbrev w64 (x:Int):Int:=x%18446744073709551616
def mtx (n:Nat):Bool:=decide (32≤n) && decide (n<64)
def Bk.t (B:Bk) (k:Nat):Sk:=sg B.ts k
def Bk.setS (B:Bk) (k:Nat) (t:Sk):Bk:={ B with ts:=B.ts.set k t }
def Bk.wJ (B:Bk) (J:List Jb):Bk:={ B with jb:=J }
def Bk.wO (B:Bk) (M:Int→Option Int):Bk:={ B with ow:=M }
def outT (n x:Nat):Bool:=decide (x<64) && decide (n≤x)
def strayE (n:Nat) (e:Ev):Bool :=
 if e.k=1∨e.k=3∨e.k=4∨e.k=18∨e.k=24 then false
 else if e.k=2∨e.k=20 then outT n e.b
 else if e.k=5 then outT n e.a || outT n e.b
 else outT n e.a
def low1 (ts:List Sk) (lv:Int) (n:Int) (J:List Jb) (i:Nat):List Jb :=
 if 0<(sg ts i).opn∧(sg ts i).lev<lv then J.set ((sg ts i).opn-1) { jg J ((sg ts i).opn-1) with lower:=w64 ((jg J ((sg ts i).opn-1)).lower+n) } else J
def lowF (ts:List Sk) (lv n:Int) (k:Nat) (J:List Jb):List Jb:=(List.range k).foldl (low1 ts lv n) J
def Sk.go (t:Sk) (n:Int) (inn:Bool):Sk :=
 if inn then { t with ran:=w64 (t.ran+n),len:=w64 (t.len+n),lng:=max t.lng (w64 (t.len+n)) } else { t with ran:=w64 (t.ran+n) }
def Bk.ran (B:Bk) (who:Int) (n:Int) (inn:Bool):Bk :=
 if who=255∨n=0 then B else
 let B1:=B.setS who.toNat ((B.t who.toNat).go n inn)
 B1.wJ (lowF B1.ts (B1.t who.toNat).lev n B1.ts.length B1.jb)
def Bk.owner (B:Bk) (k:Int) (a b:Nat):Bk :=
 if k=13 then (B.wO (mput B.ow b none)).setS a { B.t a with owns:=(B.t a).owns-1 }
 else (B.wO (mput B.ow b (some a))).setS a (if (B.t a).owns+1=1 then { B.t a with owns:=1,len:=0,secs:=(B.t a).secs+1 } else { B.t a with owns:=(B.t a).owns+1 })
def Bk.job (B:Bk) (e:Ev):Bk :=
 if e.k=8 then
  let t:=B.t e.a
  let j:=jg B.jb (t.opn-1)
  (B.wJ (B.jb.set (t.opn-1) { j with fin:=e.co,ended:=true,missed:=decide (0<t.dl) && decide (t.dl<w64 (e.co-j.rel)) })).setS e.a { t with idle:=true,rdy:=false,opn:=0 }
 else (B.wJ (B.jb++[⟨e.a,e.v,e.co,0,false,false,0,0,true⟩])).setS e.a { B.t e.a with idle:=false,rdy:=true,opn:=B.jb.length+1 }
def Sk.loose (t:Sk):Bool:=t.idle || (!t.rdy && !t.gone && !mtx t.on)
def Bk.Loose (B:Bk):Prop:=∃ k v,B.ow k=some v∧(B.t v.toNat).loose=true
def unt1 (ts:List Sk) (who:Int) (J:List Jb) (i:Nat):List Jb :=
 if 0<(sg ts i).opn∧(who=255∨who=i) then J.set ((sg ts i).opn-1) { jg J ((sg ts i).opn-1) with tidy:=false } else J
def untF (ts:List Sk) (who:Int) (k:Nat) (J:List Jb):List Jb:=(List.range k).foldl (unt1 ts who) J
def Bk.untidy (B:Bk) (who:Int):Bk:=B.wJ (untF B.ts who B.ts.length B.jb)
def Bk.learn1 (B:Bk) (e:Ev):Bk :=
 if e.k=3 then { B with ent:=true }
 else if e.k=4 then { B with ent:=false }
 else if e.k=5 then
  let B1:=if e.b≠255∧(B.t e.b).rdy=true then B.setS e.b { B.t e.b with tak:=(B.t e.b).tak+1 } else B
  { B1 with run:=e.a }
 else if e.k=6∨e.k=8 then B.job e
 else if e.k=9 then
  let B1:=B.setS e.a { B.t e.a with rdy:=false,on:=e.b }
  if mtx e.b then B1 else B1.untidy e.a
 else if e.k=10 then B.setS e.a { B.t e.a with rdy:=true }
 else if e.k=12∨e.k=13 then B.owner e.k e.a e.b
 else if e.k=21∨e.k=22 then (if e.a<64 then B.setS e.a { B.t e.a with rdy:=false,gone:=true } else B)
 else B
open Classical in
noncomputable def Bk.learn (B:Bk) (e:Ev):Bk:=if (B.learn1 e).Loose then (B.learn1 e).untidy 255 else B.learn1 e
def Bk.quiet (B:Bk) (n:Int):Bk:=if B.ent=true∨B.run=255 then B else B.ran B.run n (decide (0<(B.t B.run.toNat).owns))
def Bk.close (B:Bk) (line:Bool) (ahead:List Sk):Bk :=
 if line=true∨B.run=255 then B else
 let r:=B.run.toNat
 let was:=sg ahead r
 if 0<was.owns∧was.secs<(B.t r).secs then (B.setS r { B.t r with lng:=max (B.t r).lng (w64 (was.len+1)) }).ran B.run 1 false
 else B.ran B.run 1 (decide (0<was.owns))
noncomputable def Bk.learns (B:Bk) (l:List Ev):Bk:=l.foldl Bk.learn B
def hasEnter (l:List Ev):Bool:=l.any fun e=>decide (e.k=3)
noncomputable def Bk.step (B:Bk) (l:List Ev):Bk:=(B.learns l).close (B.ent || hasEnter l) B.ts
noncomputable def Bk.steps (B:Bk) (co:Option Int):List Ev→Bk
 | []=>B
 | e::l =>
  let B1:=match co with | none=>B | some c=>B.quiet (w64 (w64 (e.co-c)-1))
  (B1.step (e::l.takeWhile fun x=>decide (x.co=e.co))).steps (some e.co) (l.dropWhile fun x=>decide (x.co=e.co))
termination_by l=>l.length
decreasing_by
 have:=(List.dropWhile_sublist (l:=l) (fun x:Ev=>decide (x.co=e.co))).length_le;simp only [List.length_cons];omega
def bk0 (ts:List Sk):Bk:=⟨ts,fun _=>none,255,false,[]⟩
def bnd (ts:List Sk) (lv:Int) (k:Nat) (x:Int):Int:=(List.range k).foldl (fun s i=>if lv<(sg ts i).lev then w64 (s+(sg ts i).lng) else s) x
def finJ (ts:List Sk) (last:Int) (j:Jb):Jb :=
 let t:=sg ts j.task.toNat
 let j1:=if j.ended then j else { j with tidy:=false,missed:=decide (0<t.dl) && decide (t.dl<w64 (last-j.rel)) }
 { j1 with bound:=bnd ts t.lev ts.length j1.bound }
def lastCo (l:List Ev):Int:=match l.getLast? with | none=>0 | some e=>e.co
noncomputable def Bk.read (ts:List Sk) (l:List Ev):Bk :=
 let B:=(bk0 ts).steps none l
 B.wJ (B.jb.map (finJ B.ts (lastCo l)))
structure BOk (n:Nat) (B:Bk):Prop where
 len:B.ts.length=n
 opn:∀ t∈B.ts,t.opn≤B.jb.length
 ow:∀ k v,B.ow k=some v→0≤v∧v<n
 run:B.run=255∨0≤B.run∧B.run<n
 task:∀ j∈B.jb,0≤j.task∧j.task<n
theorem sg_mem {l:List Sk} {k:Nat} (h:k<l.length):sg l k∈l:=by unfold sg;rw [List.getD_eq_getElem?_getD,List.getElem?_eq_getElem h];exact List.getElem_mem h
theorem jg_mem {l:List Jb} {k:Nat} (h:k<l.length):jg l k∈l:=by unfold jg;rw [List.getD_eq_getElem?_getD,List.getElem?_eq_getElem h];exact List.getElem_mem h
theorem mem_set_or {α:Type} {l:List α} {k:Nat} {x y:α} (h:y∈l.set k x):y=x∨y∈l:=(List.mem_or_eq_of_mem_set h).symm
theorem BOk.setS {n:Nat} {B:Bk} (h:BOk n B) {k:Nat} {t:Sk} (ht:t.opn≤B.jb.length):BOk n (B.setS k t) :=
 ⟨by unfold Bk.setS;simp [h.len],fun u hu=>by rcases mem_set_or hu with rfl | hu;exact ht;exact h.opn u hu,h.ow,h.run,h.task⟩
theorem BOk.t {n:Nat} {B:Bk} (h:BOk n B) (k:Nat):(B.t k).opn≤B.jb.length:=by
 by_cases hk:k<B.ts.length
 ·exact h.opn _ (sg_mem hk)
 ·unfold Bk.t sg;rw [List.getD_eq_getElem?_getD,List.getElem?_eq_none (by omega)];exact Nat.zero_le _
theorem BOk.wJ {n:Nat} {B:Bk} (h:BOk n B) {J:List Jb} (hl:J.length=B.jb.length) (ht:∀ j∈J,0≤j.task∧j.task<n):BOk n (B.wJ J) :=
 ⟨h.len,fun t m=>by rw [show (B.wJ J).jb=J from rfl,hl];exact h.opn t m,h.ow,h.run,ht⟩
theorem fold_jobs {f:List Jb→Nat→List Jb} (hf:∀ J i,(f J i).length=J.length∧((f J i).map Jb.task)=J.map Jb.task) (l:List Nat):∀ J:List Jb,(l.foldl f J).length=J.length∧(l.foldl f J).map Jb.task=J.map Jb.task:=by
 induction l with
 | nil=>exact fun J=>⟨rfl,rfl⟩
 | cons i l ih=>exact fun J=>⟨(ih _).1.trans (hf J i).1,(ih _).2.trans (hf J i).2⟩
theorem set_task {J:List Jb} {k:Nat} {j:Jb} (h:j.task=(jg J k).task):(J.set k j).map Jb.task=J.map Jb.task:=by
 by_cases hk:k<J.length
 ·rw [List.map_set,h];refine List.ext_getElem? fun i=>?_;rw [List.getElem?_set]
  split
  ·rename_i e
   subst e;rw [if_pos (by simpa using hk),List.getElem?_map];unfold jg;rw [List.getD_eq_getElem?_getD,List.getElem?_eq_getElem hk];rfl
  ·rfl
 ·rw [List.set_eq_of_length_le (by omega)]
theorem low1_jobs (ts:List Sk) (lv n:Int) (J:List Jb) (i:Nat):(low1 ts lv n J i).length=J.length∧(low1 ts lv n J i).map Jb.task=J.map Jb.task:=by
 unfold low1;split
 ·exact ⟨by simp,set_task rfl⟩
 ·exact ⟨rfl,rfl⟩
theorem unt1_jobs (ts:List Sk) (who:Int) (J:List Jb) (i:Nat):(unt1 ts who J i).length=J.length∧(unt1 ts who J i).map Jb.task=J.map Jb.task:=by
 unfold unt1;split
 ·exact ⟨by simp,set_task rfl⟩
 ·exact ⟨rfl,rfl⟩
theorem task_in {n:Nat} {J K:List Jb} (e:J.map Jb.task=K.map Jb.task) (h:∀ j∈K,0≤j.task∧j.task<n):∀ j∈J,0≤j.task∧j.task<n:=fun j hj=>by
 have:j.task∈K.map Jb.task:=e ▸ List.mem_map_of_mem hj;obtain ⟨k,hk,e2⟩:=List.mem_map.1 this;rw [← e2];exact h k hk
theorem BOk.untidy {n:Nat} {B:Bk} (h:BOk n B) (who:Int):BOk n (B.untidy who) :=
 let q:=fold_jobs (unt1_jobs B.ts who) (List.range B.ts.length) B.jb
 h.wJ q.1 (task_in q.2 h.task)
theorem go_opn (t:Sk) (n:Int) (inn:Bool):(t.go n inn).opn=t.opn:=by unfold Sk.go;split<;>rfl
theorem go_lev (t:Sk) (n:Int) (inn:Bool):(t.go n inn).lev=t.lev:=by unfold Sk.go;split<;>rfl
theorem BOk.ran {n:Nat} {B:Bk} (h:BOk n B) (who m:Int) (inn:Bool):BOk n (B.ran who m inn):=by
 unfold Bk.ran;split
 ·exact h
 ·dsimp only;have h1:BOk n (B.setS who.toNat ((B.t who.toNat).go m inn)):=h.setS (by rw [go_opn];exact h.t _);have q:=fold_jobs (low1_jobs (B.setS who.toNat ((B.t who.toNat).go m inn)).ts ((B.setS who.toNat ((B.t who.toNat).go m inn)).t who.toNat).lev m) (List.range (B.setS who.toNat ((B.t who.toNat).go m inn)).ts.length) (B.setS who.toNat ((B.t who.toNat).go m inn)).jb;exact h1.wJ q.1 (task_in q.2 h1.task)
theorem BOk.quiet {n:Nat} {B:Bk} (h:BOk n B) (m:Int):BOk n (B.quiet m):=by unfold Bk.quiet;split;exact h;exact h.ran ..
theorem BOk.owner {n:Nat} {B:Bk} (h:BOk n B) (k:Int) {a:Nat} (b:Nat) (ha:a<n):BOk n (B.owner k a b):=by
 have key:∀ v:Option Int,(v=none∨v=some (a:Int))→BOk n (B.wO (mput B.ow b v)):=fun v hv=>⟨h.len,h.opn,fun k u hu=>by
  have hu:mput B.ow b v k=some u:=hu;unfold mput at hu
  split at hu
  ·rcases hv with rfl | rfl
   ·cases hu
   ·cases hu;omega
  ·exact h.ow k u hu,h.run,h.task⟩
 have ht:=h.t a;unfold Bk.owner;split
 ·exact (key none (.inl rfl)).setS ht
 ·refine (key (some a) (.inr rfl)).setS ?_
  split<;>exact ht
theorem BOk.job {n:Nat} {B:Bk} (h:BOk n B) {e:Ev} (ha:e.a<n):BOk n (B.job e):=by
 unfold Bk.job;split
 ·dsimp only;refine BOk.setS (h.wJ ?_ ?_) ?_
  ·simp
  ·exact task_in (set_task rfl) h.task
  ·exact Nat.zero_le _
 ·refine BOk.setS (B:=B.wJ (B.jb++[⟨e.a,e.v,e.co,0,false,false,0,0,true⟩])) ⟨h.len,fun t ht=>?_,h.ow,h.run,fun j hj=>?_⟩ ?_
  ·have:=h.opn t ht;show _≤(B.jb++[_]).length;simp;omega
  ·rcases List.mem_append.1 hj with hj | hj
   ·exact h.task j hj
   ·obtain rfl:=List.mem_singleton.1 hj;exact ⟨Int.natCast_nonneg _,by show (e.a:Int)<n;omega⟩
  ·show _≤(B.jb++[_]).length;simp
structure EvIn (n:Nat) (e:Ev):Prop where
 a:e.k=6∨e.k=8∨e.k=9∨e.k=10∨e.k=12∨e.k=13∨e.k=22→e.a<n
 sa:e.k=5→e.a=255∨e.a<n
 sb:e.k=5→e.b=255∨e.b<n
 f:e.k=21→e.a<64→e.a<n
theorem evIn_of {n:Nat} {e:Ev} (h:okE e=true) (hs:strayE n e=false):EvIn n e:=by
 unfold okE at h;have h1:=Bool.and_eq_true_iff.1 h;obtain ⟨k,cy,co,a,b,v⟩:=e;obtain ⟨hk,hn⟩:=h1;have hk:=of_decide_eq_true hk;have hst:=hs;unfold strayE outT at hst;refine ⟨?_,?_,?_,?_⟩
 ·rintro (rfl | rfl | rfl | rfl | rfl | rfl | rfl)<;>simp [okN,shp,win] at hn hst<;>first | omega | (dsimp only;omega)
 ·rintro rfl;simp [okN,shp,win] at hn hst;dsimp only;omega
 ·rintro rfl;simp [okN,shp,win] at hn hst;dsimp only;omega
 ·rintro rfl;intro ha;simp [okN,shp,win] at hn hst;dsimp only at ha ⊢;omega
theorem BOk.learn1 {n:Nat} {B:Bk} (h:BOk n B) {e:Ev} (he:EvIn n e):BOk n (B.learn1 e):=by
 unfold Bk.learn1
 split
 ·exact ⟨h.len,h.opn,h.ow,h.run,h.task⟩
 split
 ·exact ⟨h.len,h.opn,h.ow,h.run,h.task⟩
 split
 ·rename_i h5
  dsimp only;have h1:BOk n (if e.b≠255∧(B.t e.b).rdy=true then B.setS e.b { B.t e.b with tak:=(B.t e.b).tak+1 } else B):=by
   split
   ·exact h.setS (h.t _)
   ·exact h
  refine ⟨h1.len,h1.opn,h1.ow,?_,h1.task⟩
  rcases he.sa h5 with e1 | e1
  ·exact .inl (by show (e.a:Int)=255;omega)
  ·exact .inr (by show (0:Int)≤(e.a:Int)∧(e.a:Int)<n;omega)
 split
 ·rename_i h6
  exact h.job (he.a (by omega))
 split
 ·dsimp only
  split
  ·exact h.setS (h.t _)
  ·refine BOk.untidy (h.setS ?_) _;exact h.t _
 split
 ·exact h.setS (h.t _)
 split
 ·exact h.owner _ _ (he.a (by omega))
 split
 ·split
  ·exact h.setS (h.t _)
  ·exact h
 exact h
theorem BOk.learn {n:Nat} {B:Bk} (h:BOk n B) {e:Ev} (he:EvIn n e):BOk n (B.learn e):=by
 unfold Bk.learn;split
 ·exact (h.learn1 he).untidy _
 ·exact h.learn1 he
theorem BOk.learns {n:Nat}:∀ {l:List Ev} {B:Bk},BOk n B→(∀ e∈l,EvIn n e)→BOk n (B.learns l)
 | [],_,h,_=>h
 | e::l,B,h,he=>BOk.learns (l:=l) (h.learn (he e (by simp))) fun x hx=>he x (by simp [hx])
theorem BOk.close {n:Nat} {B:Bk} (h:BOk n B) (line:Bool) (ah:List Sk):BOk n (B.close line ah):=by
 unfold Bk.close;split
 ·exact h
 ·dsimp only
  split
  ·refine BOk.ran (h.setS ?_) _ _ _;exact h.t _
  ·exact h.ran _ _ _
theorem BOk.step {n:Nat} {B:Bk} (h:BOk n B) {l:List Ev} (he:∀ e∈l,EvIn n e):BOk n (B.step l):=(h.learns he).close _ _
structure Num (M:Int) (B:Bk):Prop where
 owns:∀ t∈B.ts, -M≤t.owns∧t.owns≤M
 secs:∀ t∈B.ts, -M≤t.secs∧t.secs≤M
 tak:∀ t∈B.ts, -M≤t.tak∧t.tak≤M
 dl:∀ t∈B.ts,0≤t.dl∧t.dl≤1000000000000
 jobs:(B.jb.length:Int)≤M
def small (M:Int) (t:Sk):Prop:=(-M≤t.owns∧t.owns≤M)∧(-M≤t.secs∧t.secs≤M)∧(-M≤t.tak∧t.tak≤M)∧(0≤t.dl∧t.dl≤1000000000000)
theorem Num.mk' {M:Int} {B:Bk} (h:∀ t∈B.ts,small M t) (hj:(B.jb.length:Int)≤M):Num M B:=⟨fun t ht=>(h t ht).1,fun t ht=>(h t ht).2.1,fun t ht=>(h t ht).2.2.1,fun t ht=>(h t ht).2.2.2,hj⟩
theorem Num.all {M:Int} {B:Bk} (h:Num M B):∀ t∈B.ts,small M t:=fun t ht=>⟨h.owns t ht,h.secs t ht,h.tak t ht,h.dl t ht⟩
theorem Num.nn {M:Int} {B:Bk} (h:Num M B):0≤M:=Int.le_trans (Int.natCast_nonneg _) h.jobs
theorem Num.t {M:Int} {B:Bk} (h:Num M B) (k:Nat):small M (B.t k):=by
 have hM:=h.nn
 by_cases hk:k<B.ts.length
 ·exact h.all _ (sg_mem hk)
 ·unfold Bk.t sg;rw [List.getD_eq_getElem?_getD,List.getElem?_eq_none (by omega)];exact ⟨⟨by show -M≤0;omega,by show 0≤M;omega⟩,⟨by show -M≤0;omega,by show 0≤M;omega⟩,⟨by show -M≤0;omega,by show 0≤M;omega⟩,by decide⟩
theorem small_up {M N:Int} {t:Sk} (h:small M t) (hn:M≤N):small N t:=by obtain ⟨h1,h2,h3,h4⟩:=h;exact ⟨⟨by omega,by omega⟩,⟨by omega,by omega⟩,⟨by omega,by omega⟩,h4⟩
theorem Num.up {M N:Int} {B:Bk} (h:Num M B) (hn:M≤N):Num N B:=Num.mk' (fun t ht=>small_up (h.all t ht) hn) (Int.le_trans h.jobs hn)
theorem Num.setS {N:Int} {B:Bk} (h:Num N B) {k:Nat} {t:Sk} (ht:small N t):Num N (B.setS k t) :=
 Num.mk' (fun u hu=>by rcases mem_set_or hu with rfl | hu;exact ht;exact h.all u hu) h.jobs
theorem Num.ts {M:Int} {B C:Bk} (h:Num M B) (e:C.ts=B.ts) (l:(C.jb.length:Int)≤M):Num M C:=Num.mk' (fun t ht=>h.all t (e ▸ ht)) l
theorem Num.wJ {M:Int} {B:Bk} (h:Num M B) (J:List Jb) (l:(J.length:Int)≤M):Num M (B.wJ J):=h.ts rfl l
theorem Num.wO {M:Int} {B:Bk} (h:Num M B) (f:Int→Option Int):Num M (B.wO f):=h.ts rfl h.jobs
theorem Num.untidy {M:Int} {B:Bk} (h:Num M B) (who:Int):Num M (B.untidy who) :=
 h.ts rfl (by show ((untF B.ts who B.ts.length B.jb).length:Int)≤M;rw [show (untF B.ts who B.ts.length B.jb).length=B.jb.length from (fold_jobs (unt1_jobs B.ts who) (List.range B.ts.length) B.jb).1];exact h.jobs)
theorem Num.ran {M:Int} {B:Bk} (h:Num M B) (who n:Int) (inn:Bool):Num M (B.ran who n inn):=by
 unfold Bk.ran;split
 ·exact h
 ·have h1:Num M (B.setS who.toNat ((B.t who.toNat).go n inn)):=by
   refine h.setS ?_;have:=h.t who.toNat;unfold Sk.go;split<;>exact this
  refine h1.ts rfl ?_;show ((lowF _ _ _ _ _).length:Int)≤M;unfold lowF;rw [(fold_jobs (low1_jobs _ _ _) _ _).1];exact h1.jobs
theorem Num.quiet {M:Int} {B:Bk} (h:Num M B) (m:Int):Num M (B.quiet m):=by unfold Bk.quiet;split;exact h;exact h.ran ..
theorem Num.close {M:Int} {B:Bk} (h:Num M B) (line:Bool) (ah:List Sk):Num M (B.close line ah):=by
 unfold Bk.close;split
 ·exact h
 ·dsimp only
  split
  ·refine Num.ran (h.setS ?_) _ _ _;exact h.t _
  ·exact h.ran _ _ _
theorem Num.learn1 {M:Int} {B:Bk} (h:Num M B) (e:Ev):Num (M+1) (B.learn1 e):=by
 have up:=h.up (show M≤M+1 by omega);have st:∀ (k:Nat) (t:Sk),small (M+1) t→Num (M+1) (B.setS k t):=fun k t ht=>up.setS ht;have sm:=fun k=>small_up (h.t k) (show M≤M+1 by omega);have hM:=h.nn;unfold Bk.learn1
 split
 ·exact up.ts rfl up.jobs
 split
 ·exact up.ts rfl up.jobs
 split
 ·dsimp only;have h1:Num (M+1) (if e.b≠255∧(B.t e.b).rdy=true then B.setS e.b { B.t e.b with tak:=(B.t e.b).tak+1 } else B):=by
   split
   ·refine st _ _ ?_;obtain ⟨h1,h2,h3,h4⟩:=h.t e.b;exact ⟨⟨by show -(M+1)≤(B.t e.b).owns;omega,by show (B.t e.b).owns≤M+1;omega⟩,⟨by show -(M+1)≤(B.t e.b).secs;omega,by show (B.t e.b).secs≤M+1;omega⟩,⟨by show -(M+1)≤(B.t e.b).tak+1;omega,by show (B.t e.b).tak+1≤M+1;omega⟩,h4⟩
   ·exact up
  exact h1.ts rfl h1.jobs
 split
 ·unfold Bk.job;split
  ·dsimp only;refine Num.setS (up.wJ _ ?_) ?_
   ·rw [List.length_set];exact up.jobs
   ·exact sm _
  ·refine Num.setS (up.wJ _ ?_) ?_
   ·have:=h.jobs;rw [List.length_append,List.length_singleton];omega
   ·exact sm _
 split
 ·dsimp only
  split
  ·refine st _ _ ?_;exact sm _
  ·refine Num.untidy (st _ _ ?_) _;exact sm _
 split
 ·refine st _ _ ?_;exact sm _
 split
 ·obtain ⟨h1,h2,h3,h4⟩:=h.t e.a;unfold Bk.owner;split
  ·refine Num.setS (up.wO _) ?_;exact ⟨⟨by show -(M+1)≤(B.t e.a).owns-1;omega,by show (B.t e.a).owns-1≤M+1;omega⟩,⟨by show -(M+1)≤(B.t e.a).secs;omega,by show (B.t e.a).secs≤M+1;omega⟩,⟨by show -(M+1)≤(B.t e.a).tak;omega,by show (B.t e.a).tak≤M+1;omega⟩,h4⟩
  ·refine Num.setS (up.wO _) ?_
   split
   ·exact ⟨⟨by show -(M+1)≤(1:Int);omega,by show (1:Int)≤M+1;omega⟩,⟨by show -(M+1)≤(B.t e.a).secs+1;omega,by show (B.t e.a).secs+1≤M+1;omega⟩,⟨by show -(M+1)≤(B.t e.a).tak;omega,by show (B.t e.a).tak≤M+1;omega⟩,h4⟩
   ·exact ⟨⟨by show -(M+1)≤(B.t e.a).owns+1;omega,by show (B.t e.a).owns+1≤M+1;omega⟩,⟨by show -(M+1)≤(B.t e.a).secs;omega,by show (B.t e.a).secs≤M+1;omega⟩,⟨by show -(M+1)≤(B.t e.a).tak;omega,by show (B.t e.a).tak≤M+1;omega⟩,h4⟩
 split
 ·split
  ·refine st _ _ ?_;exact sm _
  ·exact up
 exact up
theorem Num.learn {M:Int} {B:Bk} (h:Num M B) (e:Ev):Num (M+1) (B.learn e):=by
 unfold Bk.learn;split
 ·exact (h.learn1 e).untidy _
 ·exact h.learn1 e
theorem Num.learns {B:Bk}:∀ {l:List Ev} {M:Int} {B:Bk},Num M B→Num (M+l.length) (B.learns l)
 | [],M,B,h=>by show Num _ B;exact h.up (by simp)
 | e::l,M,B,h=>by
  have:=Num.learns (l:=l) (B:=B) (h.learn e);show Num _ ((B.learn e).learns l);refine this.up ?_;simp only [List.length_cons];omega
theorem Num.step {M:Int} {B:Bk} (h:Num M B) (l:List Ev):Num (M+l.length) (B.step l):=(Num.learns (B:=B) h).close _ _
end Go.St
namespace Go.St
open Go.Au Go.Hi Go.Sx
def core (t:Sk):Bool×Bool×Bool×Nat×Nat×Int:=(t.idle,t.rdy,t.gone,t.on,t.opn,t.owns)
def cntO (A:Au) (t:Nat):Nat:=A.ow.count ((t:Int)+1)
structure TieT (A:Au) (t:Nat) (s:Sk):Prop where
 idle:s.idle=decide ((tkAt A t).st=0)
 rdy:s.rdy=decide ((tkAt A t).st=1)
 gone:s.gone=decide ((tkAt A t).st=3)
 on:(tkAt A t).st=2→s.on=(tkAt A t).on
 opn:0<s.opn↔(tkAt A t).st≠0
 owns:s.owns=cntO A t
structure Tie (n:Nat) (A:Au) (B:Bk):Prop where
 ok:AOk A
 bk:BOk n B
 n64:n≤64
 t:∀ t<n,TieT A t (B.t t)
 ow:∀ k v,B.ow k=some v↔(0≤k∧k<32∧0≤v∧owg A.ow k.toNat=v+1)
 run:B.run=if A.run=0 then 255 else A.run-1
 ent:B.ent=decide (A.isr≠0)
theorem sg_set {l:List Sk} {k j:Nat} {x:Sk} (h:k<l.length):sg (l.set k x) j=if j=k then x else sg l j:=by
 unfold sg;rw [List.getD_eq_getElem?_getD,List.getD_eq_getElem?_getD,List.getElem?_set]
 by_cases e:j=k
 ·subst e;simp [h]
 ·simp [e,Ne.symm e]
theorem t_set {B:Bk} {k j:Nat} {x:Sk} (h:k<B.ts.length):(B.setS k x).t j=if j=k then x else B.t j:=sg_set h
theorem Tie.same {n:Nat} {A:Au} {B C:Bk} (h:Tie n A B) (hb:BOk n C) (hc:∀ k,core (C.t k)=core (B.t k)) (h1:C.ow=B.ow) (h2:C.run=B.run) (h3:C.ent=B.ent):Tie n A C :=
 ⟨h.ok,hb,h.n64,fun t ht=>by
  have e:=hc t;unfold core at e;simp only [Prod.mk.injEq] at e;obtain ⟨e1,e2,e3,e4,e5,e6⟩:=e;have q:=h.t t ht;exact ⟨e1 ▸ q.idle,e2 ▸ q.rdy,e3 ▸ q.gone,e4 ▸ q.on,e5 ▸ q.opn,e6 ▸ q.owns⟩,h1 ▸ h.ow,h2 ▸ h.run,h3 ▸ h.ent⟩
theorem core_set {B:Bk} {k:Nat} {x:Sk} (h:core x=core (B.t k)) (j:Nat):core ((B.setS k x).t j)=core (B.t j):=by
 by_cases hk:k<B.ts.length
 ·rw [t_set hk];split
  ·rename_i e;rw [e];exact h
  ·rfl
 ·unfold Bk.setS Bk.t;dsimp only;rw [List.set_eq_of_length_le (by omega)]
theorem core_go (t:Sk) (n:Int) (inn:Bool):core (t.go n inn)=core t:=by unfold Sk.go;split<;>rfl
theorem core_ran (B:Bk) (who n:Int) (inn:Bool):(∀ k,core ((B.ran who n inn).t k)=core (B.t k))∧(B.ran who n inn).ow=B.ow∧(B.ran who n inn).run=B.run∧(B.ran who n inn).ent=B.ent:=by
 unfold Bk.ran;split
 ·exact ⟨fun _=>rfl,rfl,rfl,rfl⟩
 ·exact ⟨fun k=>core_set (core_go _ _ _) k,rfl,rfl,rfl⟩
theorem Tie.ran {n:Nat} {A:Au} {B:Bk} (h:Tie n A B) (who m:Int) (inn:Bool):Tie n A (B.ran who m inn) :=
 let q:=core_ran B who m inn;h.same (h.bk.ran ..) q.1 q.2.1 q.2.2.1 q.2.2.2
theorem Tie.quiet {n:Nat} {A:Au} {B:Bk} (h:Tie n A B) (m:Int):Tie n A (B.quiet m):=by
 unfold Bk.quiet;split;exact h;exact h.ran ..
theorem Tie.close {n:Nat} {A:Au} {B:Bk} (h:Tie n A B) (line:Bool) (ah:List Sk):Tie n A (B.close line ah):=by
 unfold Bk.close;split
 ·exact h
 ·dsimp only;split
  ·refine Tie.ran (h.same (h.bk.setS ?_) (fun k=>core_set ?_ k) rfl rfl rfl) _ _ _
   ·exact h.bk.t _
   ·rfl
  ·exact h.ran _ _ _
theorem Tie.untidy {n:Nat} {A:Au} {B:Bk} (h:Tie n A B) (who:Int):Tie n A (B.untidy who):=h.same (h.bk.untidy who) (fun _=>rfl) rfl rfl rfl
theorem tk_same {A A':Au} {t:Nat} (h1:A'.ts=A.ts):tkAt A' t=tkAt A t:=by unfold tkAt;rw [h1]
theorem Tie.plain {n:Nat} {A A':Au} {B:Bk} (h:Tie n A B) (ha:AOk A') (h1:A'.ts.map (fun t=>(t.st,t.on))=A.ts.map (fun t=>(t.st,t.on))) (h2:A'.ow=A.ow) (h3:A'.run=A.run) (h4:A'.isr=A.isr):Tie n A' B:=by
 have hk:∀ t,(tkAt A' t).st=(tkAt A t).st∧(tkAt A' t).on=(tkAt A t).on:=fun t=>by
  have e:=congrArg (fun l=>l[t]?) h1;simp only [List.getElem?_map] at e;unfold tkAt tkg;rw [List.getD_eq_getElem?_getD,List.getD_eq_getElem?_getD]
  cases e1:A'.ts[t]?<;>cases e2:A.ts[t]?<;>rw [e1,e2] at e<;>simp at e ⊢
  exact e
 exact ⟨ha,h.bk,h.n64,fun t ht=>by
  have q:=h.t t ht;obtain ⟨k1,k2⟩:=hk t;exact ⟨by rw [k1];exact q.idle,by rw [k1];exact q.rdy,by rw [k1];exact q.gone,by rw [k1,k2];exact q.on,by rw [k1];exact q.opn,by rw [q.owns];unfold cntO;rw [h2]⟩,by rw [h2];exact h.ow,by rw [h3];exact h.run,by rw [h4];exact h.ent⟩
theorem Tie.set {n:Nat} {A A':Au} {B C:Bk} (h:Tie n A B) {a:Nat} (ha:a<n) {k:Tk} {s:Sk} (hA:AOk A') (h1:A'.ts=A.ts.set a k) (h2:A'.ow=A.ow) (h3:A'.run=A.run) (h4:A'.isr=A.isr) (hC:BOk n C) (c1:C.ts=B.ts.set a s) (c2:C.ow=B.ow) (c3:C.run=B.run) (c4:C.ent=B.ent)
  (s1:s.idle=decide (k.st=0)) (s2:s.rdy=decide (k.st=1)) (s3:s.gone=decide (k.st=3)) (s4:k.st=2→s.on=k.on) (s5:0<s.opn↔k.st≠0) (s6:s.owns=(B.t a).owns):Tie n A' C:=by
 have hl:a<A.ts.length:=by rw [h.ok.lt];have:=h.n64;omega
 have hb:a<B.ts.length:=by rw [h.bk.len];exact ha
 have tk:∀ t,tkAt A' t=if t=a then k else tkAt A t:=fun t=>by
  unfold tkAt tkg;rw [h1,List.getD_eq_getElem?_getD,List.getD_eq_getElem?_getD,List.getElem?_set]
  by_cases e:t=a
  ·subst e;simp [hl]
  ·simp [e,Ne.symm e]
 have cn:∀ t,cntO A' t=cntO A t:=fun t=>by unfold cntO;rw [h2]
 refine ⟨hA,hC,h.n64,fun t ht=>?_,by rw [c2,h2];exact h.ow,by rw [c3,h3];exact h.run,by rw [c4,h4];exact h.ent⟩;have e0:C.t t=if t=a then s else B.t t:=by unfold Bk.t;rw [c1];exact sg_set hb
 rw [e0];have q:=h.t t ht
 by_cases e:t=a
 ·subst e;rw [if_pos rfl];exact ⟨by rw [tk,if_pos rfl];exact s1,by rw [tk,if_pos rfl];exact s2,by rw [tk,if_pos rfl];exact s3,by rw [tk,if_pos rfl];exact s4,by rw [tk,if_pos rfl];exact s5,by rw [cn];exact s6.trans q.owns⟩
 ·rw [if_neg e];exact ⟨by rw [tk,if_neg e];exact q.idle,by rw [tk,if_neg e];exact q.rdy,by rw [tk,if_neg e];exact q.gone,by rw [tk,if_neg e];exact q.on,by rw [tk,if_neg e];exact q.opn,by rw [cn];exact q.owns⟩
theorem count_set' {l:List Int} {i:Nat} (h:i<l.length) (x y:Int):(l.set i x).count y+(if l.getD i 0=y then 1 else 0)=l.count y+(if x=y then 1 else 0):=by
 induction l generalizing i with
 | nil=>simp at h
 | cons z l ih =>
  cases i with
  | zero=>simp only [List.set_cons_zero,List.count_cons,List.getD_cons_zero,beq_iff_eq];omega
  | succ i =>
   simp only [List.set_cons_succ,List.count_cons,List.getD_cons_succ];have:=ih (i:=i) (by simpa using h);omega
theorem acts_task {A:Au} {a:Nat} (ha:a<64) (h:acts A a=true):(tkAt A a).st=1:=by
 unfold acts at h;rw [if_pos ha] at h;simp only [Bool.and_eq_true,decide_eq_true_eq] at h;exact h.2
theorem getD_owg (l:List Int) (k:Nat):l.getD k 0=owg l k:=rfl
theorem owg_set {l:List Int} {i j:Nat} {x:Int} (h:i<l.length):owg (l.set i x) j=if j=i then x else owg l j:=by
 unfold owg;rw [List.getD_eq_getElem?_getD,List.getD_eq_getElem?_getD,List.getElem?_set]
 by_cases e:j=i
 ·subst e;simp [h]
 ·simp [e,Ne.symm e]
theorem Tie.own {n:Nat} {A A':Au} {B C:Bk} (h:Tie n A B) {a m:Nat} (ha:a<n) (hm:m<32) {x:Int} {u:Option Int} {s:Sk} (hA:AOk A') (h1:A'.ts=A.ts) (h2:A'.ow=A.ow.set m x) (h3:A'.run=A.run) (h4:A'.isr=A.isr) (hC:BOk n C) (c1:C.ts=B.ts.set a s) (c2:C.ow=mput B.ow m u) (c3:C.run=B.run) (c4:C.ent=B.ent)
  (hu:(x=0∧u=none∧owg A.ow m=(a:Int)+1∧s.owns=(B.t a).owns-1)∨(x=(a:Int)+1∧u=some (a:Int)∧owg A.ow m=0∧s.owns=(B.t a).owns+1))
  (hs:s.idle=(B.t a).idle∧s.rdy=(B.t a).rdy∧s.gone=(B.t a).gone∧s.on=(B.t a).on∧s.opn=(B.t a).opn):Tie n A' C:=by
 have hl:m<A.ow.length:=by rw [h.ok.lo];exact hm
 have hb:a<B.ts.length:=by rw [h.bk.len];exact ha
 have tk:∀ t,tkAt A' t=tkAt A t:=fun t=>tk_same h1;refine ⟨hA,hC,h.n64,fun t ht=>?_,fun k v=>?_,by rw [c3,h3];exact h.run,by rw [c4,h4];exact h.ent⟩
 ·have e0:C.t t=if t=a then s else B.t t:=by unfold Bk.t;rw [c1];exact sg_set hb
  have q:=h.t t ht;have cs:=count_set' hl x ((t:Int)+1);rw [getD_owg] at cs;have cn:cntO A' t+(if owg A.ow m=(t:Int)+1 then 1 else 0)=cntO A t+(if x=(t:Int)+1 then 1 else 0):=by unfold cntO;rw [h2];exact cs
  rw [e0]
  by_cases e:t=a
  ·subst e;rw [if_pos rfl];obtain ⟨s1,s2,s3,s4,s5⟩:=hs;refine ⟨by rw [tk,s1];exact q.idle,by rw [tk,s2];exact q.rdy,by rw [tk,s3];exact q.gone,by rw [tk,s4];exact q.on,by rw [tk,s5];exact q.opn,?_⟩;have qo:=q.owns
   rcases hu with ⟨rfl,_,e2,e3⟩ | ⟨rfl,_,e2,e3⟩
   ·rw [e2,if_pos rfl,if_neg (by omega)] at cn;rw [e3,qo];omega
   ·rw [e2,if_pos rfl,if_neg (by omega)] at cn;rw [e3,qo];omega
  ·rw [if_neg e];refine ⟨by rw [tk];exact q.idle,by rw [tk];exact q.rdy,by rw [tk];exact q.gone,by rw [tk];exact q.on,by rw [tk];exact q.opn,?_⟩;rw [q.owns]
   rcases hu with ⟨rfl,_,e2,_⟩ | ⟨rfl,_,e2,_⟩
   ·rw [e2,if_neg (by omega),if_neg (by omega)] at cn;omega
   ·rw [e2,if_neg (by omega),if_neg (by omega)] at cn;omega
 ·have q:=h.ow k v;rw [c2,h2];unfold mput
  by_cases e:k=m
  ·subst e;rw [if_pos rfl,Int.toNat_natCast,owg_set hl,if_pos rfl]
   rcases hu with ⟨rfl,rfl,_,_⟩ | ⟨rfl,rfl,_,_⟩
   ·constructor
    ·intro hh;cases hh
    ·rintro ⟨_,_,_,hh⟩;omega
   ·constructor
    ·intro hh;cases hh;omega
    ·rintro ⟨_,_,_,hh⟩;congr 1;omega
  ·rw [if_neg e,q]
   constructor
   ·rintro ⟨k1,k2,k3,k4⟩;exact ⟨k1,k2,k3,by rw [owg_set hl,if_neg (by omega)];exact k4⟩
   ·rintro ⟨k1,k2,k3,k4⟩;exact ⟨k1,k2,k3,by rw [owg_set hl,if_neg (by omega)] at k4;exact k4⟩
theorem map_set_same {α β:Type} (f:α→β) {l:List α} {i:Nat} {x d:α} (h:f x=f (l.getD i d)):(l.set i x).map f=l.map f:=by
 rw [List.map_set]
 by_cases hi:i<l.length
 ·refine List.ext_getElem? fun j=>?_;rw [List.getElem?_set]
  split
  ·rename_i e
   subst e;rw [if_pos (by simpa using hi),List.getElem?_map,h,List.getD_eq_getElem?_getD,List.getElem?_eq_getElem hi];rfl
  ·rfl
 ·rw [List.set_eq_of_length_le (by simpa using hi)]
theorem learn1_other (B:Bk) {e:Ev} (h:e.k≠3∧e.k≠4∧e.k≠5∧e.k≠6∧e.k≠8∧e.k≠9∧e.k≠10∧e.k≠12∧e.k≠13∧e.k≠21∧e.k≠22):B.learn1 e=B:=by
 unfold Bk.learn1;rw [if_neg (by omega),if_neg (by omega),if_neg (by omega),if_neg (by omega),if_neg (by omega),if_neg (by omega),if_neg (by omega),if_neg (by omega)]
theorem Tie.learn1 {n:Nat} {A:Au} {B:Bk} (h:Tie n A B) {e:Ev} (hv:EvOk e) (hk:keepsR A e=true) (he:EvIn n e):Tie n (stepA A e) (B.learn1 e):=by
 have ha:=aok_step h.ok hv hk;have hb:=h.bk.learn1 he;obtain ⟨h1,h2,h3,h4⟩:=okE_nat (keeps_ok hk);have hr:rule { A with due:=du0 } e.k.toNat e.a e.b e.v (decide (A.due=duOf e))=true:=by unfold keepsR at hk;exact (Bool.and_eq_true_iff.1 hk).2
 have h64:=h.n64;obtain ⟨k,cy,co,a,b,v⟩:=e;dsimp only at h1 h2 h3 h4 hr;have act:∀ {x:Nat},x<64→acts { A with due:=du0 } x=true→(tkAt A x).st=1:=fun hx hh=>acts_task hx hh;obtain ⟨m,rfl⟩:∃ m:Nat,k=m:=⟨k.toNat,h3⟩;rw [Int.toNat_natCast] at h1 h2 h4 hr;clear h3 hk;have hm:m=1∨m=2∨m=3∨m=4∨m=5∨m=6∨m=7∨m=8∨m=9∨m=10∨m=11∨m=12∨m=13∨m=14∨m=15∨m=16∨m=17∨m=18∨m=19∨m=20∨m=21∨m=22∨m=23∨m=24:=by omega
 rcases hm with rfl | rfl | rfl | rfl | rfl | rfl | rfl | rfl | rfl | rfl | rfl | rfl | rfl | rfl | rfl | rfl | rfl | rfl | rfl | rfl | rfl | rfl | rfl | rfl
 case inr.inr.inl=>exact ⟨ha,hb,h.n64,fun t ht=>let q:=h.t t ht; ⟨q.1,q.2,q.3,q.4,q.5,q.6⟩,h.ow,h.run,by show true=decide ((a:Int)+1≠0);exact (decide_eq_true (by omega)).symm⟩
 case inr.inr.inr.inl=>exact ⟨ha,hb,h.n64,fun t ht=>let q:=h.t t ht; ⟨q.1,q.2,q.3,q.4,q.5,q.6⟩,h.ow,h.run,rfl⟩
 case inr.inr.inr.inr.inl =>
  have key:Tie n A (if b≠255∧(B.t b).rdy=true then B.setS b { B.t b with tak:=(B.t b).tak+1 } else B):=by
   split
   ·refine h.same (h.bk.setS ?_) (fun k=>core_set ?_ k) rfl rfl rfl
    ·exact h.bk.t _
    ·rfl
   ·exact h
  refine ⟨ha,hb,h.n64,fun t ht=>let q:=key.t t ht; ⟨q.1,q.2,q.3,q.4,q.5,q.6⟩,key.ow,?_,key.ent⟩;show (a:Int)=if (if a=255 then (0:Int) else (a:Int)+1)=0 then 255 else (if a=255 then (0:Int) else (a:Int)+1)-1
  by_cases e:a=255
  ·rw [if_pos e,if_pos rfl,e];rfl
  ·rw [if_neg e,if_neg (by omega)];omega
 case inr.inr.inr.inr.inr.inl =>
  have hn:a<n:=he.a (by dsimp only;omega);have hst:(tkAt A a).st=0:=by
   have:(decide ((tkAt A a).st=0) && decide (v=((tkAt A a).job+1)%4294967296))=true:=hr;exact of_decide_eq_true (Bool.and_eq_true_iff.1 this).1
  have q:=h.t a hn;refine h.set hn ha rfl rfl rfl rfl hb rfl rfl rfl rfl rfl rfl ?_ ?_ ?_ rfl
  ·show (B.t a).gone=_;rw [q.gone,hst];rfl
  ·intro hh;exact absurd hh (show (1:Int)≠2 by decide)
  ·exact ⟨fun _=>(show (1:Int)≠0 by decide),fun _=>Nat.succ_pos _⟩
 case inr.inr.inr.inr.inr.inr.inr.inl =>
  have hn:a<n:=he.a (by dsimp only;omega);have hst:(tkAt A a).st=1:=act (by omega) ((Bool.and_eq_true_iff.1 (show (acts { A with due:=du0 } a && decide (v=(tkAt A a).job))=true from hr)).1);have q:=h.t a hn;refine h.set hn ha rfl rfl rfl rfl hb rfl rfl rfl rfl rfl rfl ?_ ?_ ?_ rfl
  ·show (B.t a).gone=_;rw [q.gone,hst];rfl
  ·intro hh;exact absurd hh (show (0:Int)≠2 by decide)
  ·exact ⟨fun hh=>absurd hh (Nat.lt_irrefl 0),fun hh=>absurd rfl hh⟩
 case inr.inr.inr.inr.inr.inr.inr.inr.inl =>
  have hn:a<n:=he.a (by dsimp only;omega);have hst:(tkAt A a).st=1:=act (by omega) ((Bool.and_eq_true_iff.1 (show (acts { A with due:=du0 } a && (!isMu b || decide (owAt A (b-32)≠0) && decide (owAt A (b-32)≠(a:Int)+1)))=true from hr)).1);have q:=h.t a hn;have e9:B.learn1 ⟨((9:Nat):Int),cy,co,a,b,v⟩=if mtx b then B.setS a { B.t a with rdy:=false,on:=b } else (B.setS a { B.t a with rdy:=false,on:=b }).untidy a:=rfl;refine h.set (s:={ B.t a with rdy:=false,on:=b }) hn ha rfl rfl rfl rfl hb (by rw [e9];split<;>rfl) (by rw [e9];split<;>rfl) (by rw [e9];split<;>rfl) (by rw [e9];split<;>rfl) ?_ rfl ?_ (fun _=>rfl) ?_ rfl
  ·show (B.t a).idle=_;rw [q.idle,hst];rfl
  ·show (B.t a).gone=_;rw [q.gone,hst];rfl
  ·exact ⟨fun _=>(show (2:Int)≠0 by decide),fun _=>q.opn.2 (by rw [hst];decide)⟩
 case inr.inr.inr.inr.inr.inr.inr.inr.inr.inl =>
  have hn:a<n:=he.a (by dsimp only;omega);have hst:(tkAt A a).st=2:=of_decide_eq_true (Bool.and_eq_true_iff.1 (show (decide ((tkAt A a).st=2) && _)=true from hr)).1;have q:=h.t a hn;refine h.set hn ha rfl rfl rfl rfl hb rfl rfl rfl rfl ?_ rfl ?_ ?_ ?_ rfl
  ·show (B.t a).idle=_;rw [q.idle,hst];rfl
  ·show (B.t a).gone=_;rw [q.gone,hst];rfl
  ·intro hh;exact absurd hh (show (1:Int)≠2 by decide)
  ·exact ⟨fun _=>(show (1:Int)≠0 by decide),fun _=>q.opn.2 (by rw [hst];decide)⟩
 case inr.inr.inr.inr.inr.inr.inr.inr.inr.inr.inr.inl =>
  have hn:a<n:=he.a (by dsimp only;omega);have hb32:b<32:=by simp [okN,shp,win] at h4;omega
  have how:owg A.ow b=0:=of_decide_eq_true (Bool.and_eq_true_iff.1 (show (decide (owAt A b=0) && _)=true from hr)).1;have e12:B.learn1 ⟨((12:Nat):Int),cy,co,a,b,v⟩=B.owner 12 a b:=rfl;refine h.own hn hb32 (x:=(a:Int)+1) (u:=some (a:Int)) (s:=if (B.t a).owns+1=1 then { B.t a with owns:=1,len:=0,secs:=(B.t a).secs+1 } else { B.t a with owns:=(B.t a).owns+1 }) ha rfl rfl rfl rfl hb rfl rfl rfl rfl (.inr ⟨rfl,rfl,how,?_⟩) ?_
  ·split
   ·rename_i e;exact e.symm
   ·rfl
  ·split<;>exact ⟨rfl,rfl,rfl,rfl,rfl⟩
 case inr.inr.inr.inr.inr.inr.inr.inr.inr.inr.inr.inr.inl =>
  have hn:a<n:=he.a (by dsimp only;omega);have hb32:b<32:=by simp [okN,shp,win] at h4;omega
  have how:owg A.ow b=(a:Int)+1:=of_decide_eq_true (Bool.and_eq_true_iff.1 (show (decide (owAt A b=(a:Int)+1) && _)=true from hr)).1;exact h.own hn hb32 (x:=0) (u:=none) ha rfl rfl rfl rfl hb rfl rfl rfl rfl (.inl ⟨rfl,rfl,how,rfl⟩) ⟨rfl,rfl,rfl,rfl,rfl⟩
 case inr.inr.inr.inr.inr.inr.inr.inr.inr.inr.inr.inr.inr.inr.inr.inr.inr.inr.inr.inr.inl =>
  by_cases h6:a<64
  ·have hn:a<n:=he.f rfl h6;have hst:(tkAt A a).st=1:=act h6 hr;have q:=h.t a hn;have eA:(stepA A ⟨((21:Nat):Int),cy,co,a,b,v⟩).ts=A.ts.set a { tkAt A a with st:=3 }:=by unfold stepA learn;dsimp only;rw [if_pos h6];rfl
   have eO:(stepA A ⟨((21:Nat):Int),cy,co,a,b,v⟩).ow=A.ow∧(stepA A ⟨((21:Nat):Int),cy,co,a,b,v⟩).run=A.run∧(stepA A ⟨((21:Nat):Int),cy,co,a,b,v⟩).isr=A.isr:=by unfold stepA learn;dsimp only;rw [if_pos h6];exact ⟨rfl,rfl,rfl⟩
   have eB:B.learn1 ⟨((21:Nat):Int),cy,co,a,b,v⟩=B.setS a { B.t a with rdy:=false,gone:=true }:=by
    show (if a<64 then _ else _)=_;rw [if_pos h6]
   refine h.set (s:={ B.t a with rdy:=false,gone:=true }) hn ha eA eO.1 eO.2.1 eO.2.2 hb (by rw [eB];rfl) (by rw [eB];rfl) (by rw [eB];rfl) (by rw [eB];rfl) ?_ rfl rfl ?_ ?_ rfl
   ·show (B.t a).idle=_;rw [q.idle,hst];rfl
   ·intro hh;exact absurd hh (show (3:Int)≠2 by decide)
   ·exact ⟨fun _=>(show (3:Int)≠0 by decide),fun _=>q.opn.2 (by rw [hst];decide)⟩
  ·have eA:(stepA A ⟨((21:Nat):Int),cy,co,a,b,v⟩).ts=A.ts∧(stepA A ⟨((21:Nat):Int),cy,co,a,b,v⟩).ow=A.ow∧(stepA A ⟨((21:Nat):Int),cy,co,a,b,v⟩).run=A.run∧(stepA A ⟨((21:Nat):Int),cy,co,a,b,v⟩).isr=A.isr:=by unfold stepA learn;dsimp only;rw [if_neg h6];exact ⟨rfl,rfl,rfl,rfl⟩
   have eB:B.learn1 ⟨((21:Nat):Int),cy,co,a,b,v⟩=B:=by show (if a<64 then _ else _)=_;rw [if_neg h6]
   rw [eB];exact h.plain ha (by rw [eA.1]) eA.2.1 eA.2.2.1 eA.2.2.2
 case inr.inr.inr.inr.inr.inr.inr.inr.inr.inr.inr.inr.inr.inr.inr.inr.inr.inr.inr.inr.inr.inl =>
  have hn:a<n:=he.a (by dsimp only;omega);have hst:(tkAt A a).st=1:=act (by omega) hr;have q:=h.t a hn;have eB:B.learn1 ⟨((22:Nat):Int),cy,co,a,b,v⟩=B.setS a { B.t a with rdy:=false,gone:=true }:=by
   show (if a<64 then _ else _)=_;rw [if_pos (by omega)]
  refine h.set (s:={ B.t a with rdy:=false,gone:=true }) hn ha rfl rfl rfl rfl hb (by rw [eB];rfl) (by rw [eB];rfl) (by rw [eB];rfl) (by rw [eB];rfl) ?_ rfl rfl ?_ ?_ rfl
  ·show (B.t a).idle=_;rw [q.idle,hst];rfl
  ·intro hh;exact absurd hh (show (3:Int)≠2 by decide)
  ·exact ⟨fun _=>(show (3:Int)≠0 by decide),fun _=>q.opn.2 (by rw [hst];decide)⟩
 all_goals
  rw [learn1_other B (by refine ⟨?_,?_,?_,?_,?_,?_,?_,?_,?_,?_,?_⟩<;>(dsimp only;decide))]
  first
  | exact h.plain ha rfl rfl rfl rfl
  | exact h.plain ha (map_set_same (d:=tk0) (fun t:Tk=>(t.st,t.on)) rfl) rfl rfl rfl
theorem Tie.learn {n:Nat} {A:Au} {B:Bk} (h:Tie n A B) {e:Ev} (hv:EvOk e) (hk:keepsR A e=true) (he:EvIn n e):Tie n (stepA A e) (B.learn e):=by
 unfold Bk.learn;split
 ·exact (h.learn1 hv hk he).untidy _
 ·exact h.learn1 hv hk he
theorem Tie.ends {n:Nat} {A:Au} {B:Bk} (h:Tie n A B) {e:Ev} (hk:keepsR A e=true) (he:EvIn n e) (h8:e.k=8):0<(B.t e.a).opn:=by
 have hn:e.a<n:=he.a (by omega);have hr:rule { A with due:=du0 } e.k.toNat e.a e.b e.v (decide (A.due=duOf e))=true:=by unfold keepsR at hk;exact (Bool.and_eq_true_iff.1 hk).2
 rw [h8] at hr;have hst:(tkAt A e.a).st=1:=acts_task (by have:=h.n64;omega) ((Bool.and_eq_true_iff.1 (show (acts { A with due:=du0 } e.a && decide (e.v=(tkAt A e.a).job))=true from hr)).1);exact (h.t _ hn).opn.2 (by rw [hst];decide)
theorem tie0 {n:Nat} {ts:List Sk} (hn:ts.length=n) (h64:n≤64) (h:∀ t∈ts,core t=(true,false,false,0,0,0)):Tie n au0 (bk0 ts):=by
 have tk:∀ t,(tkAt au0 t).st=0:=fun t=>by
  unfold tkAt tkg au0;dsimp only;rw [List.getD_eq_getElem?_getD]
  cases e:(List.replicate 64 tk0)[t]? with
  | none=>rfl
  | some x=>obtain rfl:=List.eq_of_mem_replicate (List.mem_of_getElem? e);rfl
 refine ⟨aok0,⟨hn,fun t ht=>?_,fun _ _ hh=>(by cases hh),.inl rfl,fun _ hj=>(by cases hj)⟩,h64,fun t ht=>?_,fun k v=>?_,rfl,rfl⟩
 ·have:=h t ht;unfold core at this;simp only [Prod.mk.injEq] at this;rw [this.2.2.2.2.1];exact Nat.zero_le _
 ·have hm:=h _ (sg_mem (l:=ts) (k:=t) (by omega));unfold core at hm;simp only [Prod.mk.injEq] at hm;obtain ⟨m1,m2,m3,m4,m5,m6⟩:=hm;refine ⟨by rw [tk];exact m1,by rw [tk];exact m2,by rw [tk];exact m3,fun hh=>(by rw [tk] at hh;cases hh),by rw [tk];show 0<(sg ts t).opn↔_;rw [m5];simp,?_⟩;show (sg ts t).owns=_;rw [m6];unfold cntO au0;dsimp only;rw [List.count_replicate,if_neg (by simp;omega)];rfl
 ·constructor
  ·intro hh;cases hh
  ·rintro ⟨k1,k2,k3,k4⟩;have:owg au0.ow k.toNat=0:=by
    unfold owg au0;dsimp only;rw [List.getD_eq_getElem?_getD]
    cases e:(List.replicate 32 (0:Int))[k.toNat]? with
    | none=>rfl
    | some x=>obtain rfl:=List.eq_of_mem_replicate (List.mem_of_getElem? e);rfl
   omega
end Go.St
namespace Go.Sx
open Go.RowKit
structure Agr (listed:Array Bool) (m n:Nat):Prop where
 sz:listed.size=n
 eq:∀ i,listed.getD i false=m.testBit i
theorem Agr.un {listed:Array Bool} {m n i:Nat} (h:Agr listed m n) (hi:i<n):listed.getD i true=m.testBit i:=by
 rw [← h.eq i];have:i<listed.size:=by rw [h.sz];exact hi
 simp [Array.getD,this]
theorem Agr.set {listed:Array Bool} {m n i:Nat} (h:Agr listed m n) (hi:i<n):Agr (listed.setIfInBounds i true) (m ||| 2^i) n:=by
 refine ⟨by rw [Array.size_setIfInBounds];exact h.sz,fun k=>?_⟩;rw [Nat.testBit_or,Nat.testBit_two_pow,← h.eq k]
 by_cases e:i=k
 ·subst e;have:i<listed.size:=by rw [h.sz];exact hi
  simp [Array.getD,this]
 ·rw [getD_set_ne false e];simp [e]
section
variable {P:Program} {l:List Oper} {Q:Exit→Act→World→Prop} {S:World→Prop} {i:Nat} {p:Plan} {a:Act} {w w':World} {o:Oper}
end
section
variable {P:Program} {w0 w:World} {F:HP} {b o:Nat} {cells old:List Value} {ty:TypeId} {x y:Operand} {op:Oper} {a:Act} {Q:Exit→Act→World→Prop}
theorem Sat.there (hs:Sat w0 w (pts b o old*F)) {n:Nat} (hn:n≤old.length):w.there b o n:=fun j hj =>
 ⟨by rw [hs.cell (List.getElem?_eq_getElem (show j<old.length by omega))];rfl,hs.frz (by omega)⟩
theorem Sat.range (hs:Sat w0 w (pts b o cells*F)):w.rangeAt b o cells:=fun _ _ hj=>hs.cell hj
theorem Sat.stored (hs:Sat w0 w (pts b o old*F)) (hl:cells.length=old.length):Sat w0 (w.setCells b o cells) (pts b o cells*F):=by
 have h:=Sat.setCells (b:=b) (o:=o) (F:=F) cells w [] old (hs.perm (by simp)) (by omega);have e:old.drop cells.length=[]:=List.drop_eq_nil_of_le (by omega);rw [e] at h
 simpa using h
theorem wp_store_sat {K:Act→World→Prop} (ho:op.op=.store ty x y) (hx:a.eval x=.pointer (some ⟨b,o,none⟩)) (hy:a.eval y=.agg cells.toArray) (hs:Sat w0 w (pts b o old*F)) (hl:cells.length=old.length)
  (hi : (P.info? ty).map (·.size) = some cells.length) (h1 : cells.all (·.oneCell') = true) (h : ∀ w',Sat w0 w' (pts b o cells * F) → K (a.put op.dst undef) w') : op.wp P a w K Q :=
 wp_store_mid ty x y ho b o cells.toArray hx hy (by simpa [hl] using hs.there (Nat.le_refl _)) (by simpa using hi) (by simpa using h1) (h _ (by simpa using hs.stored hl))
theorem wpList_store_sat {ops:Array Oper} {rest:List Oper} (hgd:op.guard=none) (ho:op.op=.store ty x y) (hx:a.eval x=.pointer (some ⟨b,o,none⟩)) (hy:a.eval y=.agg cells.toArray) (hs:Sat w0 w (pts b o old*F)) (hl:cells.length=old.length)
  (hi : (P.info? ty).map (·.size) = some cells.length) (h1 : cells.all (·.oneCell') = true) (h : ∀ w',Sat w0 w' (pts b o cells * F) → wpList P ops Q rest (a.put op.dst undef) w') : wpList P ops Q (op :: rest) a w :=
 wpList_plain hgd fun _ hK=>wp_store_sat ho hx hy hs hl hi h1 fun w' h2=>hK _ _ (h w' h2)
theorem wpList_load_sat {ops:Array Oper} {rest:List Oper} {d:TypeDesc} (hgd:op.guard=none) (ho:op.op=.load ty x) (hx:a.eval x=.pointer (some ⟨b,o,none⟩)) (hs:Sat w0 w (pts b o cells*F))
  (hu : P.underlying ty = some d) (hd : d.isRow = true) (hi : (P.info? ty).map (·.size) = some cells.length)
  (h:wpList P ops Q rest (a.put op.dst (.agg cells.toArray)) w):wpList P ops Q (op::rest) a w :=
 wpList_load_mid hgd ty x ho b o hx cells d hs.range hu hd hi h
end
end Go.Sx
namespace Go.Proofs.YtkeommmigopnkaaGreatDoor
open Go.RowKit Go.Sx Go.Hi
abbrev jbCells (j:Jb):List Value:=[.int .i64 j.task,.int .u32 j.num,.int .u64 j.rel,.int .u64 j.fin,.bool j.ended,.bool j.missed,.int .u64 j.lower,.int .u64 j.bound,.bool j.tidy]
instance encJb:Enc Jb 9 where
 enc j:=jbCells j
 len _:=rfl
 one t:=by intro u hu;simp at hu;rcases hu with rfl | rfl | rfl | rfl | rfl | rfl | rfl | rfl | rfl<;>rfl
 dft:=jb0
 pos:=by decide
instance:ElemR Tryz.prog 32 Jb 9 encJb 47 64 (.agg #[.int .i64 0,.int .u32 0,.int .u64 0,.int .u64 0,.bool false,.bool false,.int .u64 0,.int .u64 0,.bool false]):=⟨⟨by kernel_rfl,by kernel_rfl,rfl⟩,by decide⟩
end Go.Proofs.YtkeommmigopnkaaGreatDoor
namespace Go.Sx
open Go.RowKit
class El {α:Type} {sz:Nat} [E:Enc α sz] (l:List α) (k:Nat) (x:outParam α):Prop where
 eq:l.getD k E.dft=x
section
variable {α:Type} {sz:Nat} [E:Enc α sz]
instance (priority:=2000) El.set (l:List α) (k:Nat) (x:α) [h:Lt k l.length]:El (l.set k x) k x:=⟨by have:=h.lt;simp [List.getD,this]⟩
instance (priority:=900) Lt.set (l:List α) (k j:Nat) (x:α) [h:Lt k l.length]:Lt k (l.set j x).length:=⟨by rw [List.length_set];exact h.lt⟩
instance (priority:=1300) Cell.el (g off n cap k c:Nat) (l:List α) (x:α) (v:Value) [h:Lt k l.length] [e:El l k x] [a:EncAt x c v]:Cell (recsP (.slice (some ⟨g,off,none⟩) n cap) l) g (off+k*sz+c) v :=
 ⟨fun hs=>(hs.recs_cell h.lt (e.eq ▸ a.at_)).1,fun hs=>(hs.recs_cell h.lt (e.eq ▸ a.at_)).2⟩
instance (priority:=1310) Cell.el0 (g off n cap k:Nat) (l:List α) (x:α) (v:Value) [h:Lt k l.length] [e:El l k x] [a:EncAt x 0 v]:Cell (recsP (.slice (some ⟨g,off,none⟩) n cap) l) g (off+k*sz) v :=
 ⟨fun hs=>(hs.recs_cell h.lt (e.eq ▸ a.at_)).1,fun hs=>(hs.recs_cell h.lt (e.eq ▸ a.at_)).2⟩
instance (priority:=1300) Upd.el (g off n cap k c:Nat) (l:List α) (x x':α) (v:Value) [h:Lt k l.length] [e:El l k x] [a:EncSet x c v x']:Upd (recsP (.slice (some ⟨g,off,none⟩) n cap) l) g (off+k*sz+c) v (recsP (.slice (some ⟨g,off,none⟩) n cap) (l.set k x')) :=
 ⟨fun hs=>recs_upd hs h.lt a.lt (e.eq ▸ a.set_)⟩
instance (priority:=1310) Upd.el0 (g off n cap k:Nat) (l:List α) (x x':α) (v:Value) [h:Lt k l.length] [e:El l k x] [a:EncSet x 0 v x']:Upd (recsP (.slice (some ⟨g,off,none⟩) n cap) l) g (off+k*sz) v (recsP (.slice (some ⟨g,off,none⟩) n cap) (l.set k x')) :=
 ⟨fun hs=>recs_upd hs h.lt a.lt (e.eq ▸ a.set_)⟩
instance (priority:=1400) Upd.elS (g off n cap k c:Nat) (l:List α) (x x':α) (v:Value) [h:Lt k l.length] [a:EncSet x c v x']:Upd (recsP (.slice (some ⟨g,off,none⟩) n cap) (l.set k x)) g (off+k*sz+c) v (recsP (.slice (some ⟨g,off,none⟩) n cap) (l.set k x')) :=
 ⟨fun hs=>by have q:=recs_upd hs (k:=k) (by rw [List.length_set];exact h.lt) a.lt ((El.set l k x).eq ▸ a.set_);rwa [List.set_set] at q⟩
instance (priority:=1410) Upd.elS0 (g off n cap k:Nat) (l:List α) (x x':α) (v:Value) [h:Lt k l.length] [a:EncSet x 0 v x']:Upd (recsP (.slice (some ⟨g,off,none⟩) n cap) (l.set k x)) g (off+k*sz) v (recsP (.slice (some ⟨g,off,none⟩) n cap) (l.set k x')) :=
 ⟨fun hs=>by have q:=recs_upd hs (k:=k) (by rw [List.length_set];exact h.lt) a.lt ((El.set l k x).eq ▸ a.set_);rwa [List.set_set] at q⟩
instance (priority:=1090) RdC.drew {α:Type} {sz:Nat} (E:Enc α sz) (w:World) (v:Value) (l:List α) [h:RdC w E v l]:RdC w.drew E v l:=⟨h.rd⟩
theorem recs_row {w0 w:World} {F:HP} {g off n cap k:Nat} {l:List α} {x:α} (hs:Sat w0 w (recsP (.slice (some ⟨g,off,none⟩) n cap) l*F)) (hk:k<l.length) (e:l.getD k E.dft=x):w.rangeAt g (off+k*sz) (E.enc x):=fun j v hj=>by
 have:=(hs.recs_cell (k:=k) (c:=j) hk (by rw [e];exact hj)).1;exact this
theorem rdR_at {w:World} {a:Option Addr} {n c:Nat} {l:List α} {k:Nat} (h:RdR w (.slice a n c) l) (hlt:k<l.length):∃ g off,a=some ⟨g,off,none⟩∧w.rangeAt g (off+k*sz) (E.enc (l.getD k E.dft)):=by
 obtain ⟨a2,cap2,g,off2,e,h3,h4,h5,h6⟩:=h;simp only [Value.slice.injEq] at e;obtain ⟨rfl,_,rfl⟩:=e;obtain rfl:=h5 (by rintro rfl;simp at hlt);refine ⟨g,off2,rfl,fun j v hj=>?_⟩;have hjs:j<sz:=by have:=(List.getElem?_eq_some_iff.1 hj).1;rwa [E.len] at this
 have h7:=cellsOf_at (E:=E) (l:=l) (k:=k) (c:=j) hlt hjs;rw [Nat.add_assoc];exact h6 _ _ (h7.trans hj)
end
theorem early_load_row {P:Program} {l:List Oper} {S:World→Prop} {Q:Exit→Act→World→Prop} {rest:List (Nat×Bool)} {i:Nat} {op:Oper} {a:Act} {w:World} {b o:Nat} {cells:List Value} {ty:TypeId} {x:Operand} {d:TypeDesc} (hi0:l[i]?=some op) (hw:Region.wanted op (yielded l.toArray a.tmps)=true) (ho:op.op=.load ty x) (hx:a.eval x=.pointer (some ⟨b,o,none⟩)) (hS:∀ w,S w→w.rangeAt b o cells)
  (hu : P.underlying ty = some d) (hd : d.isRow = true) (hi : (P.info? ty).map (·.size) = some cells.length)
  (h:wpEarly P l.toArray Q S rest (a.put op.dst (.agg cells.toArray)) w):wpEarly P l.toArray Q S ((i,true)::rest) a w:=early_read fun Kz hK=>by
 rw [hi0];dsimp only;rw [if_pos hw];refine ⟨.agg cells.toArray,fun w hSw=>?_,hK _ h⟩;unfold execOp;simp only [ho,hx,Instr.loadAt,Instr.sureAddr,Sem.run_bind,Sem.run_pure,Result.andThen_ok,run_loadVar_mid w b o ty cells d (hS w hSw) hu hd hi]
end Go.Sx
namespace Go.Proofs.YtkeommmigopnkaaGreatDoor
open Go.RowKit Go.Sx Go.Au Go.Hi Go.St
abbrev skCells (x:Sk):List Value:=[.int .i64 x.lev,.bool x.idle,.bool x.rdy,.int .u32 x.on,.bool x.gone,.int .i64 x.owns,.int .i64 x.secs,.int .i64 x.opn,.int .u64 x.len,.int .u64 x.lng,.int .u64 x.ran,.int .i64 x.tak,.int .i64 x.dl]
instance encSk:Enc Sk 13 where
 enc x:=skCells x
 len _:=rfl
 one t:=by intro u hu;simp at hu;rcases hu with rfl | rfl | rfl | rfl | rfl | rfl | rfl | rfl | rfl | rfl | rfl | rfl | rfl<;>rfl
 dft:=sk0
 pos:=by decide
instance:ElemR Tryz.prog 73 Sk 13 encSk 100 88 (.agg #[.int .i64 0,.bool false,.bool false,.int .u32 0,.bool false,.int .i64 0,.int .i64 0,.int .i64 0,.int .u64 0,.int .u64 0,.int .u64 0,.int .i64 0,.int .i64 0]):=⟨⟨by kernel_rfl,by kernel_rfl,rfl⟩,by decide⟩
instance (x:Sk):EncAt x 0 (.int .i64 x.lev):=⟨rfl⟩
instance (x:Sk):EncAt x 1 (.bool x.idle):=⟨rfl⟩
instance (x:Sk):EncAt x 2 (.bool x.rdy):=⟨rfl⟩
instance (x:Sk):EncAt x 3 (.int .u32 x.on):=⟨rfl⟩
instance (x:Sk):EncAt x 4 (.bool x.gone):=⟨rfl⟩
instance (x:Sk):EncAt x 5 (.int .i64 x.owns):=⟨rfl⟩
instance (x:Sk):EncAt x 6 (.int .i64 x.secs):=⟨rfl⟩
instance (x:Sk):EncAt x 7 (.int .i64 x.opn):=⟨rfl⟩
instance (x:Sk):EncAt x 8 (.int .u64 x.len):=⟨rfl⟩
instance (x:Sk):EncAt x 9 (.int .u64 x.lng):=⟨rfl⟩
instance (x:Sk):EncAt x 10 (.int .u64 x.ran):=⟨rfl⟩
instance (x:Sk):EncAt x 11 (.int .i64 x.tak):=⟨rfl⟩
instance (x:Sk):EncAt x 12 (.int .i64 x.dl):=⟨rfl⟩
instance (x:Sk) (n:Int):EncSet x 0 (.int .i64 n) { x with lev:=n }:=⟨rfl,by decide⟩
instance (x:Sk) (n:Bool):EncSet x 1 (.bool n) { x with idle:=n }:=⟨rfl,by decide⟩
instance (x:Sk) (n:Bool):EncSet x 2 (.bool n) { x with rdy:=n }:=⟨rfl,by decide⟩
instance (x:Sk) (n:Nat):EncSet x 3 (.int .u32 n) { x with on:=n }:=⟨rfl,by decide⟩
instance (x:Sk) (n:Bool):EncSet x 4 (.bool n) { x with gone:=n }:=⟨rfl,by decide⟩
instance (x:Sk) (n:Int):EncSet x 5 (.int .i64 n) { x with owns:=n }:=⟨rfl,by decide⟩
instance (x:Sk) (n:Int):EncSet x 6 (.int .i64 n) { x with secs:=n }:=⟨rfl,by decide⟩
instance (x:Sk) (n:Nat):EncSet x 7 (.int .i64 (n:Int)) { x with opn:=n }:=⟨rfl,by decide⟩
instance (x:Sk):EncSet x 7 (.int .i64 0) { x with opn:=0 }:=⟨rfl,by decide⟩
instance (x:Sk) (n:Int):EncSet x 8 (.int .u64 n) { x with len:=n }:=⟨rfl,by decide⟩
instance (x:Sk) (n:Int):EncSet x 9 (.int .u64 n) { x with lng:=n }:=⟨rfl,by decide⟩
instance (x:Sk) (n:Int):EncSet x 10 (.int .u64 n) { x with ran:=n }:=⟨rfl,by decide⟩
instance (x:Sk) (n:Int):EncSet x 11 (.int .i64 n) { x with tak:=n }:=⟨rfl,by decide⟩
instance (x:Sk) (n:Int):EncSet x 12 (.int .i64 n) { x with dl:=n }:=⟨rfl,by decide⟩
instance (l:List Sk) (k:Nat):El l k (sg l k):=⟨rfl⟩
instance (x:Jb):EncAt x 0 (.int .i64 x.task):=⟨rfl⟩
instance (x:Jb):EncAt x 1 (.int .u32 x.num):=⟨rfl⟩
instance (x:Jb):EncAt x 2 (.int .u64 x.rel):=⟨rfl⟩
instance (x:Jb):EncAt x 3 (.int .u64 x.fin):=⟨rfl⟩
instance (x:Jb):EncAt x 4 (.bool x.ended):=⟨rfl⟩
instance (x:Jb):EncAt x 5 (.bool x.missed):=⟨rfl⟩
instance (x:Jb):EncAt x 6 (.int .u64 x.lower):=⟨rfl⟩
instance (x:Jb):EncAt x 7 (.int .u64 x.bound):=⟨rfl⟩
instance (x:Jb):EncAt x 8 (.bool x.tidy):=⟨rfl⟩
instance (x:Jb) (n:Int):EncSet x 0 (.int .i64 n) { x with task:=n }:=⟨rfl,by decide⟩
instance (x:Jb) (n:Int):EncSet x 1 (.int .u32 n) { x with num:=n }:=⟨rfl,by decide⟩
instance (x:Jb) (n:Int):EncSet x 2 (.int .u64 n) { x with rel:=n }:=⟨rfl,by decide⟩
instance (x:Jb) (n:Int):EncSet x 3 (.int .u64 n) { x with fin:=n }:=⟨rfl,by decide⟩
instance (x:Jb) (n:Bool):EncSet x 4 (.bool n) { x with ended:=n }:=⟨rfl,by decide⟩
instance (x:Jb) (n:Bool):EncSet x 5 (.bool n) { x with missed:=n }:=⟨rfl,by decide⟩
instance (x:Jb) (n:Int):EncSet x 6 (.int .u64 n) { x with lower:=n }:=⟨rfl,by decide⟩
instance (x:Jb) (n:Int):EncSet x 7 (.int .u64 n) { x with bound:=n }:=⟨rfl,by decide⟩
instance (x:Jb) (n:Bool):EncSet x 8 (.bool n) { x with tidy:=n }:=⟨rfl,by decide⟩
instance (l:List Jb) (k:Nat):El l k (jg l k):=⟨rfl⟩
abbrev skZ:List Value:=[.int .i64 0,.bool false,.bool false,.int .u32 0,.bool false,.int .i64 0,.int .i64 0,.int .i64 0,.int .u64 0,.int .u64 0,.int .u64 0,.int .i64 0,.int .i64 0]
def bkV (g mb:Nat) (tv jv:Value) (B:Bk):HP:=pts g 0 [tv,.map (some mb),.int .i64 B.run,.bool B.ent,jv]*(recsP tv B.ts*(mpP mb B.ow*recsP jv B.jb))
def bkP (g:Nat) (B:Bk):HP:=ex fun mb:Nat=>ex fun tv:Value=>ex fun jv:Value=>bkV g mb tv jv B
theorem bk_out {w0 w:World} {F:HP} {g:Nat} {B:Bk} (hs:Sat w0 w (bkP g B*F)):∃ (mb:Nat) (ta:Option Addr) (tc:Nat) (ja:Option Addr) (jc:Nat),Sat w0 w (pts g 0 [.slice ta B.ts.length tc,.map (some mb),.int .i64 B.run,.bool B.ent,.slice ja B.jb.length jc]*(recsP (.slice ta B.ts.length tc) B.ts*(mpP mb B.ow*(recsP (.slice ja B.jb.length jc) B.jb*F)))):=by
 obtain ⟨mb,h⟩:=hs.ex_out;obtain ⟨tv,h⟩:=h.ex_out;obtain ⟨jv,h⟩:=h.ex_out;have h1:Sat w0 w (recsP tv B.ts*(pts g 0 [tv,.map (some mb),.int .i64 B.run,.bool B.ent,jv]*(mpP mb B.ow*(recsP jv B.jb*F)))):=h.perm (by unfold bkV;ac_rfl);obtain ⟨ta,tc,rfl⟩:=h1.recs_form;have h2:Sat w0 w (recsP jv B.jb*(pts g 0 [.slice ta B.ts.length tc,.map (some mb),.int .i64 B.run,.bool B.ent,jv]*(recsP (.slice ta B.ts.length tc) B.ts*(mpP mb B.ow*F)))):=h1.perm (by ac_rfl);obtain ⟨ja,jc,rfl⟩:=h2.recs_form;exact ⟨mb,ta,tc,ja,jc,h2.perm (by ac_rfl)⟩
theorem bk_in {w0 w:World} {F:HP} {g mb:Nat} {tv jv:Value} {B:Bk} (hs:Sat w0 w (pts g 0 [tv,.map (some mb),.int .i64 B.run,.bool B.ent,jv]*(recsP tv B.ts*(mpP mb B.ow*(recsP jv B.jb*F))))):Sat w0 w (bkP g B*F) :=
 Sat.ex_in mb (Sat.ex_in tv (Sat.ex_in jv (hs.perm (by unfold bkV;ac_rfl))))
theorem recs_at {w0 w:World} {F:HP} {α:Type} {sz:Nat} [E:Enc α sz] {a:Option Addr} {n c:Nat} {l:List α} (hs:Sat w0 w (recsP (.slice a n c) l*F)) (h:0<l.length):∃ g off,a=some ⟨g,off,none⟩:=by
 obtain ⟨a2,c2,g,off,e,_,_,h5,_⟩:=hs.rdR;simp only [Value.slice.injEq] at e;obtain ⟨rfl,_,_⟩:=e;exact ⟨g,off,h5 (by rintro rfl;simp at h)⟩
theorem bk_in2 {w0 w:World} {F:HP} {g mb:Nat} {ta ja:Option Addr} {tc jc:Nat} {B:Bk} (ts:List Sk) (ow:Int→Option Int) (run:Int) (ent:Bool) (jb:List Jb) (h1:B.ts=ts) (h2:B.ow=ow) (h3:B.run=run) (h4:B.ent=ent) (h5:B.jb=jb)
  (hs:Sat w0 w (pts g 0 [.slice ta ts.length tc,.map (some mb),.int .i64 run,.bool ent,.slice ja jb.length jc]*(recsP (.slice ta ts.length tc) ts*(mpP mb ow*(recsP (.slice ja jb.length jc) jb*F))))):Sat w0 w (bkP g B*F):=by
 subst h1;subst h2;subst h3;subst h4;subst h5;exact bk_in hs
end Go.Proofs.YtkeommmigopnkaaGreatDoor
namespace Go.Proofs.YtkeommmigopnkaaGreatDoor
open Go.RowKit Go.Sx Go.Au Go.Hi Go.St
theorem stMutex (x:Nat) (w:World):Calls Tryz.prog 92 #[.int .u32 x] w fun e w'=>e=.returned (.bool (mtx x))∧w=w':=by
 by_cases h1:(32:Int)≤x
 ·by_cases h2:(x:Int)<64
  ·have d1:decide ((32:Int)≤x)=true:=decide_eq_true h1;have d2:decide ((x:Int)<64)=true:=decide_eq_true h2;have hr:Hid (mtx x=true):=by unfold Hid mtx;rw [decide_eq_true (show 32≤x by omega),decide_eq_true (show x<64 by omega)];rfl
   go_enter Tryz.func92,Tryz.ntmps92
   go_wp2;go_ret;exact ⟨by rw [hr.out];rfl,rfl⟩
  ·have d1:decide ((32:Int)≤x)=true:=decide_eq_true h1;have d2:decide ((x:Int)<64)=false:=decide_eq_false h2;have hr:Hid (mtx x=false):=by unfold Hid mtx;rw [decide_eq_false (show ¬ x<64 by omega),Bool.and_false]
   go_enter Tryz.func92,Tryz.ntmps92
   go_wp2;go_ret;exact ⟨by rw [hr.out];rfl,rfl⟩
 ·have d1:decide ((32:Int)≤x)=false:=decide_eq_false h1;have hr:Hid (mtx x=false):=by unfold Hid mtx;rw [decide_eq_false (show ¬ 32≤x by omega),Bool.false_and]
  go_enter Tryz.func92,Tryz.ntmps92
  go_wp2;go_ret;exact ⟨by rw [hr.out];rfl,rfl⟩
theorem fold_snoc {α:Type} (f:α→Nat→α) (k:Nat) (x:α):(List.range (k+1)).foldl f x=f ((List.range k).foldl f x) k:=by rw [List.range_succ,List.foldl_append];rfl
theorem untF_len (ts:List Sk) (who:Int) (k:Nat) (J:List Jb):(untF ts who k J).length=J.length:=(fold_jobs (unt1_jobs ts who) (List.range k) J).1
theorem stUntidy (g:Nat) (n:Nat) (B:Bk) (hB:BOk n B) (hn:n≤64) (hjl:B.jb.length≤1000000) (who:Int) (w0 w:World) (F:HP) (hs:Sat w0 w (bkP g B*F)) :
  Calls Tryz.prog 93 #[.pointer (some ⟨g,0,none⟩),.int .i64 who] w (RetV w0 (.tuple #[]) (bkP g (B.untidy who)*F)):=by
 obtain ⟨mb,ta,tc,ja,jc,hs⟩:=bk_out hs;have H:=hid hB;have hts:B.ts.length≤64:=by rw [hB.len];exact hn
 clear hB
 go_enter Tryz.func93,Tryz.ntmps93
 go_wp2_with fail;refine wp_gen (w0:=w0) ?_;intro wx hsx;clear hs
 go_loopw [11] (fun i wr=>∃ (k:Nat) (J:List Jb),k≤B.ts.length∧i=.int .i64 k∧J=untF B.ts who k B.jb∧Sat w0 wr (pts g 0 [.slice ta B.ts.length tc,.map (some mb),.int .i64 B.run,.bool B.ent,.slice ja B.jb.length jc]*(recsP (.slice ta B.ts.length tc) B.ts*(mpP mb B.ow*(recsP (.slice ja B.jb.length jc) J*(F*any)))))) (fun i _=>B.ts.length-(intOf i).toNat)
 case atStart=>exact ⟨0,B.jb,Nat.zero_le _,rfl,rfl,own_left⟩
 case round =>
  obtain ⟨k,J,hk,rfl,hJ,hsr⟩:=hrel;clear hsx;have HJ:=hid (And.intro hJ (show J.length=B.jb.length by rw [hJ];exact untF_len ..));clear hJ
  by_cases hlt:k<B.ts.length
  ·have d1:decide (k<B.ts.length)=true:=decide_eq_true hlt;have i1:(k:Int)<(B.ts.length:Int):=by omega
   haveI:Lt k B.ts.length:=⟨hlt⟩;obtain ⟨tg,tq9,rfl⟩:=recs_at (hsr.pull (Q:=recsP (.slice ta B.ts.length tc) B.ts)) (by omega);have hrow0:=recs_row (hsr.pull (Q:=recsP (.slice (some ⟨tg,tq9,none⟩) B.ts.length tc) B.ts)) hlt (rfl:_=sg B.ts k);have hop:=H.out.opn _ (sg_mem hlt);have hnx:Hid (untF B.ts who (k+1) B.jb=unt1 B.ts who J k):=by unfold Hid;rw [HJ.out.1];exact fold_snoc ..
   unfold unt1 at hnx;obtain ⟨x,hx⟩:∃ x,x=sg B.ts k:=⟨_,rfl⟩;rw [← hx] at hrow0 hop hnx;have hrow:wr.rangeAt tg (tq9+k*13) (skCells x):=hrow0;clear hx hrow0
   by_cases h1:0<x.opn
   ·have e1:decide (0<x.opn)=true:=decide_eq_true h1;have i3:((x.opn-1:Nat):Int)=(x.opn:Int)-1:=by omega
    haveI:Lt (x.opn-1) J.length:=⟨by rw [HJ.out.2];omega⟩;obtain ⟨jg0,jo,rfl⟩:=recs_at (hsr.pull (Q:=recsP (.slice ja B.jb.length jc) J)) (by rw [HJ.out.2];omega);have i4:((x.opn-1:Nat):Int)<(B.jb.length:Int):=by omega
    have d4:decide (x.opn-1<B.jb.length)=true:=decide_eq_true (by omega);have u4:IntKind.i64.wrap ((x.opn:Int)-1)=((x.opn-1:Nat):Int):=by rw [IntKind.wrap_i64];omega
    clear i3
    by_cases h2:who=255
    ·subst h2;rw [if_pos ⟨h1,.inl rfl⟩] at hnx;go_wp2_with (first | (refine wpList_load_mid rfl _ _ rfl _ _ rfl _ _ hrow Tryz.underlying100 rfl (by kernel_rfl) ?_) | (refine wpList_store_sat (w0:=w0) (cells:=skCells x) (old:=skZ) rfl rfl rfl rfl own rfl (by kernel_rfl) rfl ?_;intro wS hsS));clear hsr hrow;refine wp_gen (w0:=w0) ?_;intro wx hsx;go_still_tail 9,(by kernel_rfl);change wpList _ _ _ _ _ wx.drew;go_wp2_with fail;go_roundw
     case rel =>
      refine ⟨k+1,_,by omega,by go_num,hnx.out.symm,?_⟩;exact own_left
     case measure=>simp [intOf];omega
    ·have e2:(who==255)=false:=by simp [h2]
     have Hw:=hid h2;clear h2
     by_cases h3:who=(k:Int)
     ·rw [if_pos ⟨h1,.inr h3⟩] at hnx;subst h3;go_wp2_with (first | (refine wpList_load_mid rfl _ _ rfl _ _ rfl _ _ hrow Tryz.underlying100 rfl (by kernel_rfl) ?_) | (refine wpList_store_sat (w0:=w0) (cells:=skCells x) (old:=skZ) rfl rfl rfl rfl own rfl (by kernel_rfl) rfl ?_;intro wS hsS));clear hsr hrow;refine wp_gen (w0:=w0) ?_;intro wx hsx;go_still_tail 9,(by kernel_rfl);change wpList _ _ _ _ _ wx.drew;go_wp2_with fail;go_roundw
      case rel =>
       refine ⟨k+1,_,by omega,by go_num,hnx.out.symm,?_⟩;exact own_left
      case measure=>simp [intOf];omega
     ·have e3:(who==(k:Int))=false:=by simp [h3]
      rw [if_neg (fun h=>h.2.elim Hw.out h3)] at hnx;clear h3;go_wp2_with (first | (refine wpList_load_mid rfl _ _ rfl _ _ rfl _ _ hrow Tryz.underlying100 rfl (by kernel_rfl) ?_) | (refine wpList_store_sat (w0:=w0) (cells:=skCells x) (old:=skZ) rfl rfl rfl rfl own rfl (by kernel_rfl) rfl ?_;intro wS hsS));clear hsr hrow;go_roundw
      case rel =>
       refine ⟨k+1,J,by omega,by go_num,hnx.out.symm,?_⟩;exact own_left
      case measure=>simp [intOf];omega
   ·have e1:decide (0<x.opn)=false:=decide_eq_false h1;rw [if_neg (fun h=>h1 h.1)] at hnx;clear h1;go_wp2_with (first | (refine wpList_load_mid rfl _ _ rfl _ _ rfl _ _ hrow Tryz.underlying100 rfl (by kernel_rfl) ?_) | (refine wpList_store_sat (w0:=w0) (cells:=skCells x) (old:=skZ) rfl rfl rfl rfl own rfl (by kernel_rfl) rfl ?_;intro wS hsS));clear hsr hrow;go_roundw
    case rel =>
     refine ⟨k+1,J,by omega,by go_num,hnx.out.symm,?_⟩;exact own_left
    case measure=>simp [intOf];omega
  ·have d1:decide (k<B.ts.length)=false:=decide_eq_false hlt;obtain rfl:k=B.ts.length:=by omega
   clear hlt;go_wp2_with fail
   go_end0
   obtain ⟨rfl,hl⟩:=HJ.out;have e:B.jb.length=(untF B.ts who B.ts.length B.jb).length:=(untF_len ..).symm;refine ⟨rfl,bk_in2 (mb:=mb) (ta:=ta) (ja:=ja) (tc:=tc) (jc:=jc) B.ts B.ow B.run B.ent (untF B.ts who B.ts.length B.jb) rfl rfl rfl rfl rfl ?_⟩;rw [← e];exact own_left
end Go.Proofs.YtkeommmigopnkaaGreatDoor
namespace Go.Sx
open Go.RowKit Go.MapKept
class PullM (P:HP) (b:Nat) (M:outParam (Int→Option Int)) (F:outParam HP):Prop where
 eq:P=mpP b M*F
instance (priority:=2000) PullM.here (b:Nat) (M:Int→Option Int) (F:HP):PullM (mpP b M*F) b M F:=⟨rfl⟩
instance (priority:=100) PullM.last (b:Nat) (M:Int→Option Int):PullM (mpP b M) b M emp:=⟨(star_emp _).symm⟩
instance (priority:=1000) PullM.right (A G F:HP) (b:Nat) (M:Int→Option Int) [h:PullM G b M F]:PullM (A*G) b M (A*F):=⟨by rw [h.eq];ac_rfl⟩
instance (priority:=900) PullM.left (A G F:HP) (b:Nat) (M:Int→Option Int) [h:PullM A b M F]:PullM (A*G) b M (F*G):=⟨by rw [h.eq];ac_rfl⟩
section
variable {P:Program} {w0 w:World} {P0 F:HP} {b:Nat} {M:Int→Option Int} {o:Oper} {a:Act} {Q:Exit→Act→World→Prop} {ops:Array Oper} {rest:List Oper} {m x u:Operand} {t kt et:TypeId} {k v:Int}
theorem wp_mapPut {K:Act→World→Prop} (ho:o.op=.mapUpdate t m x u) (ht:P.underlying t=some (.map kt et)) (hk:P.underlying kt=some (.int .u32)) (hm:a.eval m=.map (some b)) (hx:a.eval x=.int .u32 k) (hu:a.eval u=.int .i64 v) [hs:Sat w0 w P0] [hp:PullM P0 b M F]
  (h:∀ w',Sat w0 w' (mpP b (mput M k (some v))*F)→K (a.put o.dst undef) w'):o.wp P a w K Q:=by
 obtain ⟨w',hrun,hs'⟩:=run_mapPut (t:=t) (et:=et) ht hk (hs.perm hp.eq) k v;unfold Oper.wp;simp [execOp,ho,hm,hx,hu,hrun,Result.andThen];exact h _ hs'
theorem wpList_mapPut (hg:o.guard=none) (ho:o.op=.mapUpdate t m x u) (ht:P.underlying t=some (.map kt et)) (hk:P.underlying kt=some (.int .u32)) (hm:a.eval m=.map (some b)) (hx:a.eval x=.int .u32 k) (hu:a.eval u=.int .i64 v) [hs:Sat w0 w P0] [hp:PullM P0 b M F]
  (h:∀ w',Sat w0 w' (mpP b (mput M k (some v))*F)→wpList P ops Q rest (a.put o.dst undef) w'):wpList P ops Q (o::rest) a w :=
 wpList_plain hg fun _ hK=>wp_mapPut ho ht hk hm hx hu fun w' h'=>hK _ _ (h w' h')
theorem wp_mapDrop {K:Act→World→Prop} (ho:o.op=.call { callee:=.builtin .delete,args:=#[m,x],argTypes:=#[t,kt] }) (ht:P.underlying t=some (.map kt et)) (hk:P.underlying kt=some (.int .u32)) (hm:a.eval m=.map (some b)) (hx:a.eval x=.int .u32 k) [hs:Sat w0 w P0] [hp:PullM P0 b M F]
  (h:∀ w',Sat w0 w' (mpP b (mput M k none)*F)→K (a.put o.dst (.tuple #[])) w'):o.wp P a w K Q:=by
 obtain ⟨w',hrun,hs'⟩:=run_mapDrop (t:=t) (et:=et) (ty:=o.type) ht hk (hs.perm hp.eq) k;unfold Oper.wp;simp [execOp,ho,resolve,invoke,builtin,hm,hx,hrun,Result.andThen];exact h _ hs'
theorem wpList_mapDrop (hg:o.guard=none) (ho:o.op=.call { callee:=.builtin .delete,args:=#[m,x],argTypes:=#[t,kt] }) (ht:P.underlying t=some (.map kt et)) (hk:P.underlying kt=some (.int .u32)) (hm:a.eval m=.map (some b)) (hx:a.eval x=.int .u32 k) [hs:Sat w0 w P0] [hp:PullM P0 b M F]
  (h:∀ w',Sat w0 w' (mpP b (mput M k none)*F)→wpList P ops Q rest (a.put o.dst (.tuple #[])) w'):wpList P ops Q (o::rest) a w :=
 wpList_plain hg fun _ hK=>wp_mapDrop ho ht hk hm hx fun w' h'=>hK _ _ (h w' h')
end
instance Sat.imap (w0 w:World) (P:HP) (n:Nat) [h:Sat w0 w P] [s:Size w n]:Sat w0 (w.alloc (.map #[] 0)) (mpP n (fun _=>none)*P):=s.eq ▸ h.mp_new
end Go.Sx
namespace Go.Proofs.YtkeommmigopnkaaGreatDoor
open Go.RowKit Go.Sx Go.Au Go.Hi Go.St
abbrev evX (e:Ev):Value:=.agg (evCells e).toArray
theorem stOwner (g:Nat) (n:Nat) (B:Bk) (hB:BOk n B) (hn:n≤64) (M:Int) (hN:Num M B) (hM:M≤1000000) (e:Ev) (hk:e.k=12∨e.k=13) (ha:e.a<n) (w0 w:World) (F:HP) (hs:Sat w0 w (bkP g B*F)) :
  Calls Tryz.prog 94 #[.pointer (some ⟨g,0,none⟩),evX e] w (RetV w0 (.tuple #[]) (bkP g (B.owner e.k e.a e.b)*F)):=by
 obtain ⟨k,cy,co,a,b,v⟩:=e;dsimp only at hk ha ⊢;obtain ⟨mb,ta,tc,ja,jc,hs⟩:=bk_out hs;have hl:a<B.ts.length:=by rw [hB.len];exact ha
 have hts:B.ts.length≤64:=by rw [hB.len];exact hn
 have d1:decide (a<B.ts.length)=true:=decide_eq_true hl;have i1:(a:Int)<(B.ts.length:Int):=by omega
 haveI:Lt a B.ts.length:=⟨hl⟩;obtain ⟨tg,tq9,rfl⟩:=recs_at (hs.pull (Q:=recsP (.slice ta B.ts.length tc) B.ts)) (by omega);obtain ⟨⟨o1,o2⟩,⟨s1,s2⟩,_,_⟩:=hN.t a;obtain ⟨x,hx⟩:∃ x,x=sg B.ts a:=⟨_,rfl⟩;have hx':B.t a=x:=hx.symm;rw [hx'] at o1 o2 s1 s2;haveI e0:El B.ts a x:=⟨hx.symm⟩;have Hx:=hid hx';have u1:IntKind.i64.wrap (x.owns-1)=x.owns-1:=by rw [IntKind.wrap_i64];omega
 have u2:IntKind.i64.wrap (x.owns+1)=x.owns+1:=by rw [IntKind.wrap_i64];omega
 have u3:IntKind.i64.wrap (x.secs+1)=x.secs+1:=by rw [IntKind.wrap_i64];omega
 have hi:a<4294967296:=by omega
 have u4:IntKind.i64.wrap (a:Int)=a:=by rw [IntKind.wrap_i64];omega
 clear hB hN hx hx'
 rcases hk with rfl | rfl
 ·have hE:B.owner 12 a b=(B.wO (mput B.ow b (some a))).setS a (if x.owns+1=1 then { x with owns:=1,len:=0,secs:=x.secs+1 } else { x with owns:=x.owns+1 }):=by rw [← Hx.out];rfl
  have HE:=hid hE;clear hE;obtain ⟨lev,idle,rdy,on,gone,owns,secs,opn,len,lng,ran,tak,dl⟩:=x;dsimp only at *
  by_cases h1:owns=0
  ·subst h1;rw [if_pos (by omega)] at HE
   go_enter Tryz.func94,Tryz.ntmps94
   go_wp2_with fail;go_quiet (fail);go_wp2_with fail;refine wp_gen (w0:=w0) ?_;intro wx hsx
   go_still_tail 9,(by kernel_rfl)
   change wpList _ _ _ _ _ wx.drew
   go_wp2_with (refine wpList_mapPut rfl rfl Tryz.underlying74 Tryz.underlying25 rfl rfl rfl ?_;intro wM hsM)
   go_end0
   rw [HE.out];refine ⟨rfl,bk_in2 (mb:=mb) (ta:=some ⟨tg,tq9,none⟩) (ja:=ja) (tc:=tc) (jc:=jc) (B.ts.set a ⟨lev,idle,rdy,on,gone,1,secs+1,opn,0,lng,ran,tak,dl⟩) (mput B.ow b (some a)) B.run B.ent B.jb rfl rfl rfl rfl rfl ?_⟩;rw [List.length_set];exact own_left
  ·have e1:(owns+1==1)=false:=by simp;omega
   rw [if_neg (by omega)] at HE;clear h1
   go_enter Tryz.func94,Tryz.ntmps94
   go_wp2_with fail;go_quiet (fail);go_wp2_with fail;refine wp_gen (w0:=w0) ?_;intro wx hsx
   go_still_tail 9,(by kernel_rfl)
   change wpList _ _ _ _ _ wx.drew
   go_wp2_with (refine wpList_mapPut rfl rfl Tryz.underlying74 Tryz.underlying25 rfl rfl rfl ?_;intro wM hsM)
   go_end0
   rw [HE.out];refine ⟨rfl,bk_in2 (mb:=mb) (ta:=some ⟨tg,tq9,none⟩) (ja:=ja) (tc:=tc) (jc:=jc) (B.ts.set a ⟨lev,idle,rdy,on,gone,owns+1,secs,opn,len,lng,ran,tak,dl⟩) (mput B.ow b (some a)) B.run B.ent B.jb rfl rfl rfl rfl rfl ?_⟩;rw [List.length_set];exact own_left
 ·have hE:B.owner 13 a b=(B.wO (mput B.ow b none)).setS a { x with owns:=x.owns-1 }:=by rw [← Hx.out];rfl
  have HE:=hid hE;clear hE
  go_enter Tryz.func94,Tryz.ntmps94
  go_wp2_with fail;go_quiet (fail);go_wp2_with fail;refine wp_gen (w0:=w0) ?_;intro wx hsx
  go_still_tail 6,(by kernel_rfl)
  change wpList _ _ _ _ _ wx.drew
  go_wp2_with (refine wpList_mapDrop rfl rfl Tryz.underlying74 Tryz.underlying25 rfl rfl ?_;intro wM hsM)
  go_end0
  rw [HE.out];refine ⟨rfl,bk_in2 (mb:=mb) (ta:=some ⟨tg,tq9,none⟩) (ja:=ja) (tc:=tc) (jc:=jc) (B.ts.set a { x with owns:=x.owns-1 }) (mput B.ow b none) B.run B.ent B.jb rfl rfl rfl rfl rfl ?_⟩;rw [List.length_set];exact own_left
theorem stOut (n x pb:Nat) (hx:x<4294967296) (w:World) (hc:w.cell? ⟨pb,0,none⟩=some (.int .i64 n)):Calls Tryz.prog 57 #[.int .u32 x,.pointer (some ⟨pb,0,none⟩)] w fun e w'=>e=.returned (.bool (outT n x))∧w=w':=by
 have u1:IntKind.i64.wrap (x:Int)=x:=by rw [IntKind.wrap_i64];omega
 by_cases h1:(x:Int)<64
 ·have d1:decide ((x:Int)<64)=true:=decide_eq_true h1;have hr:Hid (outT n x=decide (n≤x)):=by unfold Hid outT;rw [decide_eq_true (show x<64 by omega),Bool.true_and]
  clear h1
  go_enter Tryz.func57,Tryz.ntmps57
  go_wp2;go_ret;exact ⟨by rw [hr.out];rfl,rfl⟩
 ·have d1:decide ((x:Int)<64)=false:=decide_eq_false h1;have hr:Hid (outT n x=false):=by unfold Hid outT;rw [decide_eq_false (show ¬ x<64 by omega),Bool.false_and]
  clear h1
  go_enter Tryz.func57,Tryz.ntmps57
  go_wp2;go_ret;exact ⟨by rw [hr.out];rfl,rfl⟩
theorem stStray1 (n:Nat) (hn:n≤64) (cy co:Int) (a b v:Nat) (ha:a<4294967296) (hb:b<4294967296) (w0 w:World) (F:HP) (hs:Sat w0 w F) :
  Calls Tryz.prog 33 #[evX ⟨1,cy,co,a,b,v⟩,.int .i64 n] w (RetV w0 (.bool (strayE n ⟨1,cy,co,a,b,v⟩)) F):=by
 have hr:Hid (strayE n ⟨1,cy,co,a,b,v⟩=false):=rfl
 go_enter Tryz.func33,Tryz.ntmps33
 go_wp2_with fail;go_ret;exact ⟨by rw [hr.out];rfl,own_left⟩
theorem stStray3 (n:Nat) (hn:n≤64) (cy co:Int) (a b v:Nat) (ha:a<4294967296) (hb:b<4294967296) (w0 w:World) (F:HP) (hs:Sat w0 w F) :
  Calls Tryz.prog 33 #[evX ⟨3,cy,co,a,b,v⟩,.int .i64 n] w (RetV w0 (.bool (strayE n ⟨3,cy,co,a,b,v⟩)) F):=by
 have hr:Hid (strayE n ⟨3,cy,co,a,b,v⟩=false):=rfl
 go_enter Tryz.func33,Tryz.ntmps33
 go_wp2_with fail;go_ret;exact ⟨by rw [hr.out];rfl,own_left⟩
theorem stStray4 (n:Nat) (hn:n≤64) (cy co:Int) (a b v:Nat) (ha:a<4294967296) (hb:b<4294967296) (w0 w:World) (F:HP) (hs:Sat w0 w F) :
  Calls Tryz.prog 33 #[evX ⟨4,cy,co,a,b,v⟩,.int .i64 n] w (RetV w0 (.bool (strayE n ⟨4,cy,co,a,b,v⟩)) F):=by
 have hr:Hid (strayE n ⟨4,cy,co,a,b,v⟩=false):=rfl
 go_enter Tryz.func33,Tryz.ntmps33
 go_wp2_with fail;go_ret;exact ⟨by rw [hr.out];rfl,own_left⟩
theorem stStray18 (n:Nat) (hn:n≤64) (cy co:Int) (a b v:Nat) (ha:a<4294967296) (hb:b<4294967296) (w0 w:World) (F:HP) (hs:Sat w0 w F) :
  Calls Tryz.prog 33 #[evX ⟨18,cy,co,a,b,v⟩,.int .i64 n] w (RetV w0 (.bool (strayE n ⟨18,cy,co,a,b,v⟩)) F):=by
 have hr:Hid (strayE n ⟨18,cy,co,a,b,v⟩=false):=rfl
 go_enter Tryz.func33,Tryz.ntmps33
 go_wp2_with fail;go_ret;exact ⟨by rw [hr.out];rfl,own_left⟩
theorem stStray24 (n:Nat) (hn:n≤64) (cy co:Int) (a b v:Nat) (ha:a<4294967296) (hb:b<4294967296) (w0 w:World) (F:HP) (hs:Sat w0 w F) :
  Calls Tryz.prog 33 #[evX ⟨24,cy,co,a,b,v⟩,.int .i64 n] w (RetV w0 (.bool (strayE n ⟨24,cy,co,a,b,v⟩)) F):=by
 have hr:Hid (strayE n ⟨24,cy,co,a,b,v⟩=false):=rfl
 go_enter Tryz.func33,Tryz.ntmps33
 go_wp2_with fail;go_ret;exact ⟨by rw [hr.out];rfl,own_left⟩
theorem stStray2 (n:Nat) (hn:n≤64) (cy co:Int) (a b v:Nat) (ha:a<4294967296) (hb:b<4294967296) (w0 w:World) (F:HP) (hs:Sat w0 w F) :
  Calls Tryz.prog 33 #[evX ⟨2,cy,co,a,b,v⟩,.int .i64 n] w (RetV w0 (.bool (strayE n ⟨2,cy,co,a,b,v⟩)) F):=by
 have hr:Hid (strayE n ⟨2,cy,co,a,b,v⟩=outT n b):=rfl
 go_enter Tryz.func33,Tryz.ntmps33
 go_wp2_with fail;refine (stOut n b _ hb _ own_cell).mono ?_;rintro en w1 ⟨rfl,rfl⟩;go_wp2_with fail;go_ret;exact ⟨by rw [hr.out];rfl,own_left⟩
theorem stStray20 (n:Nat) (hn:n≤64) (cy co:Int) (a b v:Nat) (ha:a<4294967296) (hb:b<4294967296) (w0 w:World) (F:HP) (hs:Sat w0 w F) :
  Calls Tryz.prog 33 #[evX ⟨20,cy,co,a,b,v⟩,.int .i64 n] w (RetV w0 (.bool (strayE n ⟨20,cy,co,a,b,v⟩)) F):=by
 have hr:Hid (strayE n ⟨20,cy,co,a,b,v⟩=outT n b):=rfl
 go_enter Tryz.func33,Tryz.ntmps33
 go_wp2_with fail;refine (stOut n b _ hb _ own_cell).mono ?_;rintro en w1 ⟨rfl,rfl⟩;go_wp2_with fail;go_ret;exact ⟨by rw [hr.out];rfl,own_left⟩
theorem stStray5t (n:Nat) (hn:n≤64) (cy co:Int) (a b v:Nat) (ha:a<4294967296) (hb:b<4294967296) (hz:outT n a=true) (w0 w:World) (F:HP) (hs:Sat w0 w F) :
  Calls Tryz.prog 33 #[evX ⟨5,cy,co,a,b,v⟩,.int .i64 n] w (RetV w0 (.bool (strayE n ⟨5,cy,co,a,b,v⟩)) F):=by
 have hr:Hid (strayE n ⟨5,cy,co,a,b,v⟩=true):=by show (outT n a || outT n b)=_;rw [hz];rfl
 have Hz:=hid hz;clear hz
 go_enter Tryz.func33,Tryz.ntmps33
 go_wp2_with fail;refine (stOut n a _ ha _ own_cell).mono ?_;rintro en w1 ⟨rfl,rfl⟩;go_wp2_with fail;go_ret;exact ⟨by rw [hr.out];rfl,own_left⟩
theorem stStray5f (n:Nat) (hn:n≤64) (cy co:Int) (a b v:Nat) (ha:a<4294967296) (hb:b<4294967296) (hz:outT n a=false) (w0 w:World) (F:HP) (hs:Sat w0 w F) :
  Calls Tryz.prog 33 #[evX ⟨5,cy,co,a,b,v⟩,.int .i64 n] w (RetV w0 (.bool (strayE n ⟨5,cy,co,a,b,v⟩)) F):=by
 have hr:Hid (strayE n ⟨5,cy,co,a,b,v⟩=outT n b):=by show (outT n a || outT n b)=_;rw [hz];rfl
 have Hz:=hid hz;clear hz
 go_enter Tryz.func33,Tryz.ntmps33
 go_wp2_with fail;refine (stOut n a _ ha _ own_cell).mono ?_;rintro en w1 ⟨rfl,rfl⟩;go_wp2_with fail
 ·exact absurd (show outT n a=true by assumption) (by rw [Hz.out];decide)
 refine (stOut n b _ hb _ own_cell).mono ?_;rintro en w2 ⟨rfl,rfl⟩;go_wp2_with fail;go_ret;exact ⟨by rw [hr.out];rfl,own_left⟩
theorem stStrayO (k:Int) (n:Nat) (hn:n≤64) (cy co:Int) (a b v:Nat) (ha:a<4294967296) (hb:b<4294967296) (hk:k≠1∧k≠3∧k≠4∧k≠18∧k≠24∧k≠2∧k≠20∧k≠5) (w0 w:World) (F:HP) (hs:Sat w0 w F) :
  Calls Tryz.prog 33 #[evX ⟨k,cy,co,a,b,v⟩,.int .i64 n] w (RetV w0 (.bool (strayE n ⟨k,cy,co,a,b,v⟩)) F):=by
 have hr:Hid (strayE n ⟨k,cy,co,a,b,v⟩=outT n a):=by unfold Hid strayE;dsimp only;rw [if_neg (by omega),if_neg (by omega),if_neg (by omega)]
 obtain ⟨k1,k2,k3,k4,k5,k6,k7,k8⟩:=hk;have f1:(k==1)=false:=by simp [k1]
 have f2:(k==3)=false:=by simp [k2]
 have f3:(k==4)=false:=by simp [k3]
 have f4:(k==18)=false:=by simp [k4]
 have f5:(k==24)=false:=by simp [k5]
 have f6:(k==2)=false:=by simp [k6]
 have f7:(k==20)=false:=by simp [k7]
 have f8:(k==5)=false:=by simp [k8]
 clear k1 k2 k3 k4 k5 k6 k7 k8
 go_enter Tryz.func33,Tryz.ntmps33
 go_wp2_with fail;refine (stOut n a _ ha _ own_cell).mono ?_;rintro en w1 ⟨rfl,rfl⟩;go_wp2_with fail;go_ret;exact ⟨by rw [hr.out];rfl,own_left⟩
theorem stStray (n:Nat) (hn:n≤64) (e:Ev) (ha:e.a<4294967296) (hb:e.b<4294967296) (w0 w:World) (F:HP) (hs:Sat w0 w F) :
  Calls Tryz.prog 33 #[evX e,.int .i64 n] w (RetV w0 (.bool (strayE n e)) F):=by
 obtain ⟨k,cy,co,a,b,v⟩:=e
 by_cases h1:k=1
 ·subst h1;exact stStray1 n hn cy co a b v ha hb w0 w F hs
 by_cases h3:k=3
 ·subst h3;exact stStray3 n hn cy co a b v ha hb w0 w F hs
 by_cases h4:k=4
 ·subst h4;exact stStray4 n hn cy co a b v ha hb w0 w F hs
 by_cases h18:k=18
 ·subst h18;exact stStray18 n hn cy co a b v ha hb w0 w F hs
 by_cases h24:k=24
 ·subst h24;exact stStray24 n hn cy co a b v ha hb w0 w F hs
 by_cases h2:k=2
 ·subst h2;exact stStray2 n hn cy co a b v ha hb w0 w F hs
 by_cases h20:k=20
 ·subst h20;exact stStray20 n hn cy co a b v ha hb w0 w F hs
 by_cases h5:k=5
 ·subst h5
  cases hz:outT n a with
  | true=>exact stStray5t n hn cy co a b v ha hb hz w0 w F hs
  | false=>exact stStray5f n hn cy co a b v ha hb hz w0 w F hs
 exact stStrayO k n hn cy co a b v ha hb ⟨h1,h3,h4,h18,h24,h2,h20,h5⟩ w0 w F hs
instance (a v co:Int):Cells encJb [.int .i64 a,.int .u32 v,.int .u64 co,.int .u64 0,.bool false,.bool false,.int .u64 0,.int .u64 0,.bool true] [⟨a,v,co,0,false,false,0,0,true⟩]:=⟨rfl⟩
theorem stJob8 (g:Nat) (n:Nat) (B:Bk) (hB:BOk n B) (hn:n≤64) (M:Int) (hN:Num M B) (hM:M≤1000000) (cy co:Int) (a b v:Nat) (ha:a<n) (hop:0<(B.t a).opn) (w0 w:World) (F:HP) (hs:Sat w0 w (bkP g B*F)) :
  Calls Tryz.prog 91 #[.pointer (some ⟨g,0,none⟩),evX ⟨8,cy,co,a,b,v⟩] w (RetV w0 (.tuple #[]) (bkP g (B.job ⟨8,cy,co,a,b,v⟩)*F)):=by
 obtain ⟨mb,ta,tc,ja,jc,hs⟩:=bk_out hs;have hl:a<B.ts.length:=by rw [hB.len];exact ha
 have hts:B.ts.length≤64:=by rw [hB.len];exact hn
 have d1:decide (a<B.ts.length)=true:=decide_eq_true hl;have i1:(a:Int)<(B.ts.length:Int):=by omega
 haveI:Lt a B.ts.length:=⟨hl⟩;obtain ⟨tg,tq9,rfl⟩:=recs_at (hs.pull (Q:=recsP (.slice ta B.ts.length tc) B.ts)) (by omega);have hjb:B.jb.length≤1000000:=by have:=hN.jobs;omega
 have ho2:=hB.t a;obtain ⟨_,_,_,⟨q1,q2⟩⟩:=hN.t a;obtain ⟨x,hx⟩:∃ x,x=sg B.ts a:=⟨_,rfl⟩;have hx':B.t a=x:=hx.symm;rw [hx'] at hop ho2 q1 q2;haveI e0:El B.ts a x:=⟨hx.symm⟩;haveI:Lt (x.opn-1) B.jb.length:=⟨by omega⟩;obtain ⟨jg0,jo,rfl⟩:=recs_at (hs.pull (Q:=recsP (.slice ja B.jb.length jc) B.jb)) (by omega);obtain ⟨y,hy⟩:∃ y,y=jg B.jb (x.opn-1):=⟨_,rfl⟩;haveI e1:El B.jb (x.opn-1) y:=⟨hy.symm⟩;have i4:((x.opn-1:Nat):Int)<(B.jb.length:Int):=by omega
 have d4:decide (x.opn-1<B.jb.length)=true:=decide_eq_true (by omega);have u4:IntKind.i64.wrap ((x.opn:Int)-1)=((x.opn-1:Nat):Int):=by rw [IntKind.wrap_i64];omega
 have HE:Hid (B.job ⟨8,cy,co,a,b,v⟩=(B.wJ (B.jb.set (x.opn-1) { y with fin:=co,ended:=true,missed:=decide (0<x.dl) && decide (x.dl<w64 (co-y.rel)) })).setS a { x with idle:=true,rdy:=false,opn:=0 }):=by
  unfold Hid Bk.job;rw [if_pos rfl];dsimp only;rw [hx',← hy]
 clear hx hx' hy hB hN hop ho2;obtain ⟨lev,idle,rdy,on,gone,owns,secs,opn,len,lng,ran,tak,dl⟩:=x;obtain ⟨task,num,rel,fin,ended,missed,lower,bound,tidy⟩:=y;dsimp only at *;obtain ⟨z,hz⟩:∃ z,z=w64 (co-rel):=⟨_,rfl⟩;have u5:IntKind.u64.wrap (co-rel)=z:=by rw [IntKind.wrap_u64,hz]
 have u6:IntKind.u64.wrap dl=dl:=by rw [IntKind.wrap_u64];omega
 rw [← hz] at HE;clear hz
 by_cases h1:0<dl
 ·have e2:decide (0<dl)=true:=decide_eq_true h1;rw [e2,Bool.true_and] at HE;clear h1 q1 q2
  go_enter Tryz.func91,Tryz.ntmps91
  go_wp2_with fail;go_quiet (fail);go_wp2_with fail;go_quiet (fail);go_wp2_with fail;refine wp_gen (w0:=w0) ?_;intro wx hsx
  go_still_tail 25,(by kernel_rfl)
  change wpList _ _ _ _ _ wx.drew
  go_wp2_with fail
  go_end0
  rw [HE.out];refine ⟨rfl,bk_in2 (mb:=mb) (ta:=some ⟨tg,tq9,none⟩) (ja:=some ⟨jg0,jo,none⟩) (tc:=tc) (jc:=jc) (B.ts.set a ⟨lev,true,false,on,gone,owns,secs,0,len,lng,ran,tak,dl⟩) B.ow B.run B.ent (B.jb.set (opn-1) ⟨task,num,rel,co,true,decide (dl<z),lower,bound,tidy⟩) rfl rfl rfl rfl rfl ?_⟩;rw [List.length_set,List.length_set];exact own_left
 ·have e2:decide (0<dl)=false:=decide_eq_false h1;rw [e2,Bool.false_and] at HE;clear h1 q1 q2
  go_enter Tryz.func91,Tryz.ntmps91
  go_wp2_with fail;go_quiet (fail);go_wp2_with fail;go_quiet (fail);go_wp2_with fail;refine wp_gen (w0:=w0) ?_;intro wx hsx;refine wp_region_early (fun w'=>w'.cell? ⟨tg,tq9+a*13+12,none⟩=some (.int .i64 dl)) [(0,true),(1,true),(2,true),(3,true),(4,true),(5,true),(6,true),(7,true),(8,true),(9,true),(10,true),(11,true),(12,true),(13,true),(14,true),(15,true),(16,true),(17,true),(18,true),(19,true),(20,true),(21,true),(22,true),(23,true),(24,true),(25,false)] (by kernel_rfl) (by kernel_rfl) (fun _ _ _ _ h=>h) own_cell ?_
  iterate 25 (first | refine early_S ?_ | refine early_N ?_)
  refine early_G rfl (by rfl) (fun K hK=>?_);go_wp2_with fail
  (first | refine ⟨own_cell,?_⟩ | skip)
  (first | refine early_done ?_ | skip)
  go_wp2_with fail
  go_end0
  rw [HE.out];refine ⟨rfl,bk_in2 (mb:=mb) (ta:=some ⟨tg,tq9,none⟩) (ja:=some ⟨jg0,jo,none⟩) (tc:=tc) (jc:=jc) (B.ts.set a ⟨lev,true,false,on,gone,owns,secs,0,len,lng,ran,tak,dl⟩) B.ow B.run B.ent (B.jb.set (opn-1) ⟨task,num,rel,co,true,false,lower,bound,tidy⟩) rfl rfl rfl rfl rfl ?_⟩;rw [List.length_set,List.length_set];exact own_left
theorem stJob6 (g:Nat) (n:Nat) (B:Bk) (hB:BOk n B) (hn:n≤64) (M:Int) (hN:Num M B) (hM:M≤1000000) (cy co:Int) (a b v:Nat) (ha:a<n) (w0 w:World) (F:HP) (hs:Sat w0 w (bkP g B*F)) :
  Calls Tryz.prog 91 #[.pointer (some ⟨g,0,none⟩),evX ⟨6,cy,co,a,b,v⟩] w (RetV w0 (.tuple #[]) (bkP g (B.job ⟨6,cy,co,a,b,v⟩)*F)):=by
 obtain ⟨mb,ta,tc,ja,jc,hs⟩:=bk_out hs;have hl:a<B.ts.length:=by rw [hB.len];exact ha
 have hts:B.ts.length≤64:=by rw [hB.len];exact hn
 have d1:decide (a<B.ts.length)=true:=decide_eq_true hl;have i1:(a:Int)<(B.ts.length:Int):=by omega
 haveI:Lt a B.ts.length:=⟨hl⟩;obtain ⟨tg,tq9,rfl⟩:=recs_at (hs.pull (Q:=recsP (.slice ta B.ts.length tc) B.ts)) (by omega);have hjb:B.jb.length≤1000000:=by have:=hN.jobs;omega
 obtain ⟨x,hx⟩:∃ x,x=sg B.ts a:=⟨_,rfl⟩;have hx':B.t a=x:=hx.symm;haveI e0:El B.ts a x:=⟨hx.symm⟩;have u4:IntKind.i64.wrap (a:Int)=a:=by rw [IntKind.wrap_i64];omega
 have HE:Hid (B.job ⟨6,cy,co,a,b,v⟩=(B.wJ (B.jb++[⟨a,v,co,0,false,false,0,0,true⟩])).setS a { x with idle:=false,rdy:=true,opn:=B.jb.length+1 }):=by
  unfold Hid Bk.job;rw [if_neg (show ¬ (6:Int)=8 by decide)];rw [hx']
 clear hx hx' hB hN;obtain ⟨lev,idle,rdy,on,gone,owns,secs,opn,len,lng,ran,tak,dl⟩:=x;dsimp only at *
 go_enter Tryz.func91,Tryz.ntmps91
 go_wp2_with fail;go_quiet (fail);go_wp2_with fail;refine wp_gen (w0:=w0) ?_;intro wx hsx;refine wp_region_till (fun w'=>Sat w0 w' (pts g 0 [.slice (some ⟨tg,tq9,none⟩) B.ts.length tc,.map (some mb),.int .i64 B.run,.bool B.ent,.slice ja B.jb.length jc]*(pts w.heap.size 0 [.int .i64 6,.int .u64 cy,.int .u64 co,.int .u32 a,.int .u32 b,.int .u32 v]*any))) 17 [(0,0),(1,0),(2,0),(3,0),(4,1),(5,0),(6,1),(7,0),(8,0),(9,1),(10,0),(11,1),(12,0),(13,2),(14,2),(15,0),(16,0),(17,2)] (by kernel_rfl) (by kernel_rfl) (fun _ _ _ _ h=>h) own_any2 ?_
 iterate 13 (first | refine plan_pS ?_ | refine plan_rS ?_ | refine plan_pN ?_ | refine plan_rN ?_)
 refine plan_G rfl (by rfl) (fun K hK=>?_);go_wp2_with fail;refine ⟨fun _=>own_any2,?_⟩;refine plan_G rfl (by rfl) (fun K hK=>?_);refine wp_append_recs rfl rfl rfl (by omega) ?_;intro ap ac aL aw ahL ah1 ah2 ahs _;refine hK _ _ ⟨fun _=>own_any2,?_⟩;clear hK K;simp only [Act.put,zqA,zqP,zqQ]
 iterate 2 (first | refine plan_pS ?_ | refine plan_rS ?_ | refine plan_pN ?_ | refine plan_rN ?_)
 refine plan_G rfl (by rfl) (fun K hK=>?_);go_wp2_with fail;refine ⟨fun h=>absurd rfl h,plan_done ?_⟩;go_wp2_with fail
 go_end0
 rw [HE.out];unfold Hid at ahL;subst ahL;refine ⟨rfl,bk_in2 (mb:=mb) (ta:=some ⟨tg,tq9,none⟩) (ja:=ap) (tc:=tc) (jc:=ac) (B.ts.set a ⟨lev,false,true,on,gone,owns,secs,(B.jb++[(⟨a,v,co,0,false,false,0,0,true⟩:Jb)]).length,len,lng,ran,tak,dl⟩) B.ow B.run B.ent (B.jb++[⟨a,v,co,0,false,false,0,0,true⟩]) (by rw [List.length_append];rfl) rfl rfl rfl rfl ?_⟩;rw [List.length_set];exact own_left
end Go.Proofs.YtkeommmigopnkaaGreatDoor
namespace Go.Sx
open Go.RowKit Go.MapKept
section
variable {P:Program}
theorem it_run_next (w:World) (ty:TypeId) (bi bm since c0:Nat) (seen:Array Nat) (es:Array MapEntry) (clock:Nat) (hi:w.heap[bi]?=some (.mapIter (some bm) since seen c0)) (hb:w.heap[bm]?=some (.map es clock)) (hold:∀ x∈es.toList,x.born<since) (hsc:since≤c0) :
  ((leftOf es seen).size=0∧(Instr.next (.pointer (some ⟨bi,0,none⟩)) false ty).run P w=.ok (.tuple #[.bool false]) w) ∨
  ∃ e∈(leftOf es seen).toList, ∃ n:Nat,(Instr.next (.pointer (some ⟨bi,0,none⟩)) false ty).run P w=.ok (.tuple #[.bool true,e.key,e.val]) { w.drewN n with heap:=w.heap.setIfInBounds bi (.mapIter (some bm) since (seen.push e.born) clock) }:=by
 simp only [Instr.next,getObj,Sem.run_bind,Sem.run,hi,hb,Result.andThen,next_test_false seen es since c0 hold hsc,Bool.false_eq_true,if_false];unfold leftOf;have hmem:∀ x∈(Array.filter (fun e=>!seen.contains e.born) es).toList,x.born<since:=fun x hx=>hold x (by simp at hx ⊢;exact hx.1);generalize Array.filter (fun e=>!seen.contains e.born) es=L at hmem ⊢;have e1:L.filter (fun x=>decide (x.born<since))=L:=Array.filter_eq_self.2 (fun x hx=>by simpa using hmem x (by simpa using hx));have e2:L.filter (fun x=>decide (x.born ≥ since))=#[]:=by
  rw [Array.filter_eq_empty_iff];intro x hx;have:=hmem x (by simpa using hx);simp;omega
 simp only [e1,e2,Array.append_empty]
 by_cases h0:L.size=0
 ·left
  have:L=#[]:=Array.eq_empty_of_size_eq_zero h0;subst this;refine ⟨rfl,?_⟩;simp [choose,Sem.run,Question.forced]
 ·right
  have hne:L.isEmpty=false:=by simp [Array.isEmpty,h0]
  simp only [hne,Bool.false_eq_true,if_false,Array.empty_append,Array.size_map];have hch:∃ (j n:Nat),j<L.size∧(choose (Question.mapNext L.size)).run P w=.ok j (w.drewN n):=by
   by_cases hf:L.size≤1
   ·exact ⟨0,0,by omega,by rw [show w.drewN 0=w from rfl];simp [choose,Sem.run,Question.forced,hf]⟩
   ·exact ⟨_,1,Nat.mod_lt _ (by omega),by
     simp only [choose,Sem.run,Question.forced,decide_eq_true_eq,hf,if_false,Question.cut]
     rfl⟩
  obtain ⟨j,n,hj,hrun⟩:=hch;refine ⟨L[j],by simp,n,?_⟩;have hi':(w.drewN n).heap[bi]?=some (.mapIter (some bm) since seen c0):=hi;have hset:∀ (o':Obj),(setObj bi o').run P (w.drewN n)=.ok () { w.drewN n with heap:=w.heap.setIfInBounds bi o' }:=fun o'=>by
   simp only [setObj,Sem.run];rw [hi']
   rfl
  simp only [hrun,Array.getElem?_map,Array.getElem?_eq_getElem hj,Option.map_some,Sem.run_bind,hset,Result.andThen]
  rfl
theorem it_run_entry (w : World) (bi bm since : Nat) (seen : Array Nat) (es : Array MapEntry) (clock : Nat) (e : MapEntry) (hi : w.heap[bi]? = some (.mapIter (some bm) since (seen.push e.born) clock)) (hb : w.heap[bm]? = some (.map es clock)) (he : e ∈ es.toList) (hn : (es.toList.map (·.born)).Nodup) :
  (Instr.entry (.pointer (some ⟨bi,0,none⟩))).run P w=.ok (.tuple #[e.key,e.val]) w:=by
 have hf : es.find? (·.born == e.born) = some e:=by rw [← Array.find?_toList];exact find_born e es.toList hn he
 simp only [Instr.entry,getObj,Sem.run_bind,Sem.run,hi,hb,Result.andThen,Array.back?_push,bne_self_eq_false,Bool.false_eq_true,if_false,hf]
 rfl
abbrev itW (w:World) (bm since:Nat) (seen:Array Nat) (n:Nat):World:=(w.drewN n).alloc (.mapIter (some bm) since seen since)
theorem it_at {w wr:World} {bm since n:Nat} {seen:Array Nat} {F:HP} (h:Sat (itW w bm since seen n) wr F):wr.heap[w.heap.size]?=some (.mapIter (some bm) since seen since):=by
 have e:(itW w bm since seen n).heap[w.heap.size]?=some (.mapIter (some bm) since seen since):=heap_alloc_new (w.drewN n) _;have hs:(itW w bm since seen n).heap.size=w.heap.size+1:=by simp [itW]
 rw [h.below.block _ (by omega)];exact e
theorem it_old {w wr:World} {bm since n:Nat} {seen:Array Nat} {F:HP} (h:Sat (itW w bm since seen n) wr F) {i:Nat} (hi:i<w.heap.size):wr.heap[i]?=w.heap[i]?:=by
 have hs:(itW w bm since seen n).heap.size=w.heap.size+1:=by simp [itW]
 rw [h.below.block _ (by omega)];exact @heap_alloc_old (w.drewN n) _ _ hi
theorem it_next {w wr:World} {bm since n:Nat} {seen:Array Nat} {F:HP} (h:Sat (itW w bm since seen n) wr F) (b:Nat) (m:Nat):Sat (itW w bm since (seen.push b) m) { wr.drewN m with heap:=wr.heap.setIfInBounds w.heap.size (.mapIter (some bm) since (seen.push b) since) } any:=by
 have hs:∀ s k,(itW w bm since s k).heap.size=w.heap.size+1:=fun s k=>by simp [itW]
 have hb:=h.below;have hz:=hb.size;rw [hs] at hz;refine ⟨⟨hb.os,hb.tape,hb.output,by rw [hs];simpa using hz,fun i hi=>?_⟩,fun _ _=>none,trivial,fun _ _ _ e=>by cases e⟩;rw [hs] at hi;show (wr.heap.setIfInBounds w.heap.size _)[i]?=_;rw [Array.getElem?_setIfInBounds]
 by_cases e:w.heap.size=i
 ·subst e;rw [if_pos rfl,if_pos (by omega)];exact (heap_alloc_new (w.drewN m) _).symm
 ·rw [if_neg e,it_old h (by omega)];exact (@heap_alloc_old (w.drewN m) _ _ (by show i<w.heap.size;omega)).symm
theorem it_past {w wr:World} {w0:World} {bm since n:Nat} {seen:Array Nat} {F G:HP} (hs:Sat w0 w G) (h:Sat (itW w bm since seen n) wr F):Sat w0 wr G:=by
 have b0:Below w.heap.size w (w.drewN n):=⟨rfl,rfl,rfl,Nat.le_refl _,fun _ _=>rfl⟩;have b1:Below w.heap.size w (itW w bm since seen n):=b0.alloc (Nat.le_refl _) _;have b2:Below w.heap.size w wr:=b1.trans (h.below.mono b1.size);obtain ⟨p,hp,k⟩:=hs.own;exact ⟨hs.below.trans (b2.mono hs.below.size),p,hp,fun b o v e=>⟨(k b o v e).1,(k b o v e).2.below b2⟩⟩
theorem it_row {w wr:World} {bm since n:Nat} {seen:Array Nat} {F:HP} (h:Sat (itW w bm since seen n) wr F) {g o:Nat} {xs:List Value} (hg:g<w.heap.size) (hr:w.rangeAt g o xs):wr.rangeAt g o xs:=fun j v hj=>by
 have:=hr j v hj;unfold World.cell? at this ⊢;dsimp only at this ⊢;rw [it_old h hg];exact this
theorem it_cell {w wr:World} {bm since n:Nat} {seen:Array Nat} {F:HP} (h:Sat (itW w bm since seen n) wr F) {g o:Nat} {v:Value} (hr:w.cell? ⟨g,o,none⟩=some v):wr.cell? ⟨g,o,none⟩=some v:=by
 have hg:=World.block_lt_of_cell? w _ hr;unfold World.cell? at hr ⊢;dsimp only at hr ⊢;rw [it_old h hg];exact hr
theorem it_seen {w wr:World} {bm since n:Nat} {seen:Array Nat} {F:HP} (h:Sat (itW w bm since seen n) wr F):wr.iterSeen w.heap.size=seen:=by
 unfold World.iterSeen;rw [it_at h]
end
end Go.Sx
