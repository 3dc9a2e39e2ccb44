/-
  Parts of the proof: VmG VmH VmI VmJ VmK VmL VmM.
-/
import Derived.Orders
import Derived.Test.YtkeommmigopnkaaGreatDoorKF0
set_option linter.unusedVariables false
set_option linter.unusedSimpArgs false
set_option maxHeartbeats 32000000
set_option maxRecDepth 100000
namespace Go.Vm
open Go.RowKit
noncomputable section
section
variable {P:Program} {ρ:Rho} {ev:Operand→Option Value} {ρe:Operand→Value} {w0 w:World} {M:Mem}
theorem Grow.put {b:Nat} {x:Blk} {y:Nat×Nat×Nat} (h:ρ b=some y):Grow ρ M ρ (M.put b x) :=
 ⟨fun _ _=>rfl,Nat.le_refl _,fun j z _ e g=>by
  rcases Mem.get_put g with ⟨rfl,_⟩ | ⟨_,g⟩
  ·rw [h] at e;cases e
  ·exact g⟩
theorem Grow.newB (h:MR w0 ρ M w) {x:Blk} {y:Nat×Nat×Nat}:Grow ρ M (upd ρ M.nx y) (M.newB x) :=
 ⟨fun b hb=>by unfold upd;rw [if_neg (by omega)],Nat.le_succ _,fun j z hj e g=>by
  rcases Mem.get_put g with ⟨rfl,_⟩ | ⟨_,g⟩
  ·omega
  ·exact g⟩
theorem MR.newCells (h:MR w0 ρ M w) {cs:List Value} {c:Array Value} (ty:TypeId) (hc:cs.length≤c.size) (hr:∀ (j:Nat) (v:Value),cs[j]?=some v→∃ v',c[j]?=some v'∧SR ρ v v') :
  MR w0 (upd ρ M.nx (w.heap.size,0,c.size)) (M.new cs) (w.alloc (.cells c ty)):=by
 have hz:ρ M.nx=none:=h.fresh _ (Nat.le_refl _);have h1:MR w0 ρ (M.new cs) w:=(h.hole hz (.cells cs.length (wr .e 0 cs))).raise (Nat.le_succ _);refine h1.fill hz (Nat.lt_succ_self _) c ty fun y hy=>?_
 rcases Mem.get_put hy with ⟨_,e⟩ | ⟨e,_⟩
 ·refine ⟨_,_,e,hc,fun j v _ hv=>?_⟩
  rcases get_wr _ _ _ _ _ hv with ⟨i,e1,e2⟩ | ⟨_,e2⟩
  ·rw [Nat.zero_add] at e1;subst e1;exact hr _ _ e2
  ·rw [T.get_e] at e2;cases e2
 ·exact absurd rfl e
theorem MR.newLR (h:MR w0 ρ M w) {cs:List Value} {c:Array Value} (ty:TypeId) (hr:LR (SR ρ) cs c.toList) :
  MR w0 (upd ρ M.nx (w.heap.size,0,c.size)) (M.new cs) (w.alloc (.cells c ty)) :=
 h.newCells ty (by have:=hr.len;simp at this;omega) fun j v e=>by
  obtain ⟨v',e1,e2⟩:=hr.get e;exact ⟨v',by simpa using e1,e2⟩
theorem MR.st (h:MR w0 ρ M w) {b o B O N:Nat} {vs vs':List Value} {M':Mem} (hs:M.st b o vs=some M') (hb:ρ b=some (B,O,N)) (hv:LR (SR ρ) vs vs') :
  MR w0 ρ M' (w.setCells B (O+o) vs')∧(∀ j,j<vs'.length→(w.cell? ⟨B,O+o+j,none⟩).isSome=true)∧(∀ j,j<vs'.length→w.frozen? ⟨B,O+o+j,none⟩=false)∧(∀ v∈vs',v.oneCell'=true)∧Grow ρ M ρ M':=by
 unfold Mem.st at hs
 split at hs
 ·rename_i n t hm
  split at hs
  ·rename_i hle
   cases hs
   obtain ⟨a,b',c,d⟩:=h.sets hm hb hv (Nat.le_of_ble_eq_true hle);exact ⟨a,b',c,d,Grow.put hb⟩
  ·cases hs
 ·cases hs
theorem len_zrep (z:List Value):∀ k,(zrep z k).length=k*z.length
 | 0=>by simp [zrep]
 | k+1=>by
  have:=len_zrep z k;unfold zrep at *;rw [List.replicate_succ,List.flatten_cons,List.length_append,this,Nat.add_mul];omega
theorem get_zrep (z:List Value):∀ k j,j<k*z.length→(zrep z k)[j]?=z[j%z.length]?
 | 0,j,h=>by simp at h
 | k+1,j,h=>by
  have ih:=get_zrep z k;have e:zrep z (k+1)=z++zrep z k:=by unfold zrep;rw [List.replicate_succ,List.flatten_cons]
  rw [e]
  by_cases hj:j<z.length
  ·rw [List.getElem?_append_left hj,Nat.mod_eq_of_lt hj]
  ·rw [Nat.add_mul,Nat.one_mul] at h;rw [List.getElem?_append_right (by omega),ih _ (by omega),Nat.mod_eq_sub_mod (a:=j) (by omega)]
theorem zrep_map {z : Array Value} {n : Nat} {k : Nat} (hn : n = k * z.size) (hz : 0 < z.size) : ((Array.range n).map (z[· % z.size]!)).toList = zrep z.toList k:=by
 apply List.ext_getElem?;intro j
 by_cases hj:j<n
 ·rw [get_zrep _ _ _ (by simp;omega)];have h2:j%z.size<z.size:=Nat.mod_lt _ hz;simp [hj,h2]
 ·rw [List.getElem?_eq_none (by simp;omega),List.getElem?_eq_none (by rw [len_zrep];simp;omega)]
theorem zrep_LR {z:List Value} (h:all1 z=true) (k:Nat):LR (SR ρ) (zrep z k) (zrep z k):=by
 refine LR.refl fun a ha=>SR.refl1 ?_;unfold zrep at ha;rw [List.mem_flatten] at ha;obtain ⟨l,h1,h2⟩:=ha;rw [(List.mem_replicate.1 h1).2] at h2;exact all1_mem h a h2
theorem szBy {t:TypeId} {i:TypeInfo} {z y:Nat} (hi:P.info? t=some i) (h1:szOf P t=some z) (h2:byOf P t=some y):i.size=z∧i.bytes=y:=by
 unfold szOf at h1;unfold byOf at h2;rw [hi] at h1 h2
 simpa using And.intro h1 h2
def Gives (P:Program) (s:Sem Next) (w:World) (v':Value) (w':World):Prop:=s.run P w=.ok (.value v') w'∨(s.run P w=.ok .skip w'∧v'=undef)
def GoesOn (w0:World) (ρ:Rho) (M:Mem) (v:Value) (M':Mem) (K:Value→World→Prop):Prop:=∃ ρ' v' w',K v' w'∧Grow ρ M ρ' M'∧MR w0 ρ' M' w'∧VR ρ' v v'
theorem GoesOn.mono {K K':Value→World→Prop} {v:Value} {M':Mem} (h:GoesOn w0 ρ M v M' K) (k:∀ v' w',K v' w'→K' v' w'):GoesOn w0 ρ M v M' K':=by
 obtain ⟨ρ',v',w',a,b⟩:=h;exact ⟨ρ',v',w',k _ _ a,b⟩
theorem SR.of_sl {p:Option Addr} {n c:Nat} {b:Value} (h:VR ρ (.slice p n c) b):SR ρ (.slice p n c) b:=by
 cases h with
 | one r=>cases r with
  | sc r=>exact r
theorem zeroCells_list {z:Array Value} {k:Nat} (hz:0<z.size):(Builtin.zeroCells z k).toList=zrep z.toList k:=by
 unfold Builtin.zeroCells;exact zrep_map rfl hz
theorem size_zc (z:Array Value) (k:Nat):(Builtin.zeroCells z k).size=k*z.size:=by simp [Builtin.zeroCells]
theorem grown_size {a b g z p:Nat} (hp:p=(g-(a+b))*z) (hg:a+b≤g):a*z+b*z+p=g*z:=by
 rw [hp,← Nat.add_mul,← Nat.add_mul];congr 1;omega
theorem append_zero {t ty e:TypeId} {i:TypeInfo} (ht:P.underlying t=some (.slice e)) (hi:P.info? e=some i) {p q:Option Addr} {n c k:Nat} (hc:n≤c):(Builtin.append_ #[t,t] ty #[.slice p n c,.slice q 0 k]).run P w=.ok (.slice p n c) w:=by
 cases p<;>cases q<;>simp [Builtin.append_,run_underlying ht,sizeOf,typeInfo,hi,Builtin.lenOf,Builtin.firstCells,loadCells,loadCellsFrom,hc,storeCells]
theorem evAppend_run (hM:MR w0 ρ M w) {t ty:TypeId} {s x s' x' v:Value} {M':Mem} (hs:VR ρ s s') (hx:VR ρ x x') (h:evAppend P M t s x=some (v,M')) :
  GoesOn w0 ρ M v M' fun v' w'=>(Builtin.append_ #[t,t] ty #[s',x']).run P w=.ok v' w':=by
 unfold evAppend at h
 split at h
 ·rename_i e ht
  split at h
  ·rename_i z y zs hz hy hzs
   split at h
   ·rename_i hq
    simp only [Bool.and_eq_true] at hq;have hq1:=Nat.eq_of_beq_eq_true hq.1;have hq2:=blt_lt hq.2;obtain ⟨yzv,z1,z2,yz3,yz4,i,hi,hzi⟩:=zeroOf_run (ρ:=ρ) hzs;obtain ⟨i1,i2⟩:=szBy hi hz hy;have hzsz:yzv.cells.size=z:=by rw [← hq1,← z1];simp
    split at h
    ·rename_i p n c
     split at h
     ·rename_i hnc
      cases h
      have hnc:=Nat.le_of_ble_eq_true hnc;have hx':=hx.eq1 rfl;subst hx';have hs':=SR.of_sl hs;have:∃ p' c',s'=.slice p' n c'∧n≤c':=by
       cases hs' with
       | snil=>exact ⟨_,_,rfl,by omega⟩
       | sl=>exact ⟨_,_,rfl,by omega⟩
       | su _ _ hn _ _=>exact ⟨_,_,rfl,hn⟩
       | s0=>exact ⟨_,_,rfl,by omega⟩
      obtain ⟨p',c',rfl,hc'⟩:=this;exact ⟨ρ,_,w,append_zero ht hi hc',Grow.refl _ _,hM,hs⟩
     ·cases h
    ·rename_i p n c bx ox m cx
     split at h
     ·rename_i hm
      have hm:=Nat.eq_of_beq_eq_true hm;subst hm
      split at h
      ·rename_i hnc
       cases h
       have hnc:=Nat.le_of_ble_eq_true hnc;obtain ⟨q',k',rfl,_⟩:=hx.sl_len;have hs':=SR.of_sl hs;have:∃ p' c',s'=.slice p' n c'∧n≤c':=by
        cases hs' with
        | snil=>exact ⟨_,_,rfl,by omega⟩
        | sl=>exact ⟨_,_,rfl,by omega⟩
        | su _ _ hn _ _=>exact ⟨_,_,rfl,hn⟩
        | s0=>exact ⟨_,_,rfl,by omega⟩
       obtain ⟨p',c',rfl,hc'⟩:=this;exact ⟨ρ,_,w,append_zero ht hi hc',Grow.refl _ _,hM,hs⟩
      ·cases h
     ·rename_i hm
      have hm0:0<m:=by
       rcases Nat.eq_zero_or_pos m with g | g
       ·subst g;cases hm
       ·exact g
      split at h
      ·rename_i news hld hb
       simp only [Bool.and_eq_true] at hb;have hb1:=Nat.le_of_ble_eq_true hb.1;have hb2:=Nat.le_of_ble_eq_true hb.2;obtain ⟨BX,OX,NX,cx',ex,rfl⟩:=hx.sl_inv hm0;obtain ⟨news',n1,n2,n3⟩:=hM.ld hld ex;have n4:∀ j u,news'[j]?=some u→w.cell? ((⟨BX,OX+ox,none⟩:Addr).add j)=some u:=fun j u e=>by rw [Addr.add_lit];exact n3 j u e
       have n5:∀ u∈news',u.oneCell'=true:=fun u hu=>by
        obtain ⟨k,hk,e⟩:=List.getElem_of_mem hu;have hk2:k<news.length:=by rw [n1.len];exact hk
        obtain ⟨u2,e1,e2⟩:=n1.get (List.getElem?_eq_getElem hk2);rw [List.getElem?_eq_getElem hk,e] at e1
        cases e1;exact e2.one
       have n6:news'.length=m*i.size:=by rw [n2,i1]
       have h63:((n+m:Nat):Int)≤9223372036854775807:=by simp only [maxLen] at hb2;omega
       have pad:∀ (olds news:List Value) (olds' news':List Value) (k:Nat),LR (SR ρ) olds olds'→LR (SR ρ) news news'→∀ (j:Nat) (v:Value),(olds++news)[j]?=some v→∃ v',(olds'.toArray++news'.toArray++Builtin.zeroCells yzv.cells k)[j]?=some v'∧SR ρ v v':=fun olds news olds' news' k l1 l2 j v hv=>by
        obtain ⟨v',e1,e2⟩:=(l1.append l2).get hv;refine ⟨v',?_,e2⟩;rw [← Array.getElem?_toList,Array.toList_append,Array.toList_append,List.getElem?_append_left (by have:=(List.getElem?_eq_some_iff.1 e1).1;simpa using this)]
        simpa using e1
       have mz:n*z+m*z=(n+m)*z:=(Nat.add_mul n m z).symm
       split at h
       ·split at h
        ·rename_i hn0
         cases h
         simp only [Bool.and_eq_true] at hn0;have hn1:=Nat.eq_of_beq_eq_true hn0.1;have hn2:=Nat.eq_of_beq_eq_true hn0.2;subst hn1 hn2;have hs':=hs.eq1 rfl;subst hs';have hr:=run_append_nil (P:=P) w t ty e i yzv ht hi hzi ⟨BX,OX+ox,none⟩ m cx' news' n6 n4 hm0 (by omega) (by rw [i2];simp only [Nat.zero_add] at hb1;omega);have hg:=grownCap_ge w m 0 e;have hcs:(#[].toList.toArray++news'.toArray++Builtin.zeroCells yzv.cells (grownCap w m 0 e-m)).size=grownCap w m 0 e*z:=by
          have:=grown_size (a:=0) (b:=m) (g:=grownCap w m 0 e) (z:=z) (p:=(Builtin.zeroCells yzv.cells (grownCap w m 0 e-m)).size) (by rw [size_zc,hzsz,Nat.zero_add]) (by omega);simp only [Array.size_append,List.size_toArray,n2] at this ⊢
          simpa using this
         have hm':=hM.drew.newCells (cs:=news) (c:=[].toArray++news'.toArray++Builtin.zeroCells yzv.cells (grownCap w m 0 e-m)) e (by rw [n1.len];simp) (fun j v hv=>pad [] news [] news' _ .nil n1 j v (by simpa using hv));have hm'':MR w0 (upd ρ M.nx (w.heap.size,0,(news'.toArray++Builtin.zeroCells yzv.cells (grownCap w m 0 e-m)).size)) (M.new news) (w.drew.alloc (.cells (news'.toArray++Builtin.zeroCells yzv.cells (grownCap w m 0 e-m)) e)):=by simpa using hm'
         refine ⟨_,_,_,hr,Grow.newB hM,hm'',?_⟩;refine .one (.sc (.su (B:=w.heap.size) (O:=0) (N:=grownCap w m 0 e*z) ?_ hq2 hg (by omega) (grownCap_le_maxLen w m 0 e (by omega))));unfold upd;rw [if_pos rfl];simp at hcs ⊢;exact hcs
        ·cases h
       ·rename_i b o
        have hs':=SR.of_sl hs
        split at h
        ·rename_i hcu
         have hcu:=blt_lt hcu;have:∃ B O N,ρ b=some (B,O,N)∧s'=.slice (some ⟨B,O+o,none⟩) n c:=by
          cases hs' with
          | sl e _=>exact ⟨_,_,_,e,rfl⟩
          | su=>unfold UNK at hcu;omega
          | s0=>unfold UNK at hcu;omega
         obtain ⟨B,O,N,eb,rfl⟩:=this
         split at h
         ·rename_i hnm
          have hnm:=Nat.le_of_ble_eq_true hnm
          split at h
          ·rename_i M'' hst
           cases h
           obtain ⟨a1,a2,a3,a4,a5⟩:=hM.st hst eb n1;have hr:=run_append_room_cells (P:=P) w t ty e i ht hi B (O+o) n c ⟨BX,OX+ox,none⟩ m cx' news' n6 n4 n5 hnm (by rw [i1,Nat.add_assoc];exact a2) (by rw [i1,Nat.add_assoc];exact a3);rw [i1,Nat.add_assoc] at hr;exact ⟨ρ,_,_,hr,a5,a1,.one (.sc (.sl eb hcu))⟩
          ·cases h
         ·rename_i hnm
          have hnm:c<n+m:=by
           refine Nat.lt_of_not_le fun g=>?_;rw [Nat.ble_eq_true_of_le g] at hnm;cases hnm
          split at h
          ·rename_i olds hld2
           cases h
           obtain ⟨olds',o1,o2,o3⟩:=hM.ld hld2 eb;have hr:=run_append_grow (P:=P) w t ty e i yzv ht hi hzi ⟨B,O+o,none⟩ n c olds' (by rw [o2,i1]) (fun j u e=>by rw [Addr.add_lit];exact o3 j u e) ⟨BX,OX+ox,none⟩ m cx' news' n6 n4 hnm h63 (growslice_fits (by omega) (by rw [i2];exact hb1));have hg:=grownCap_ge w (n+m) c e;have hcs:(olds'.toArray++news'.toArray++Builtin.zeroCells yzv.cells (grownCap w (n+m) c e-(n+m))).size=grownCap w (n+m) c e*z:=by
            have:=grown_size (a:=n) (b:=m) (g:=grownCap w (n+m) c e) (z:=z) (p:=(Builtin.zeroCells yzv.cells (grownCap w (n+m) c e-(n+m))).size) (by rw [size_zc,hzsz]) hg;simp only [Array.size_append,List.size_toArray,n2,o2] at this ⊢;exact this
           have hm':=hM.drew.newCells (cs:=olds++news) (c:=olds'.toArray++news'.toArray++Builtin.zeroCells yzv.cells (grownCap w (n+m) c e-(n+m))) e (by simp [n1.len,o1.len]) (fun j v hv=>pad olds news olds' news' _ o1 n1 j v hv);refine ⟨_,_,_,hr,Grow.newB hM,hm',?_⟩;refine .one (.sc (.su (B:=w.heap.size) (O:=0) (N:=grownCap w (n+m) c e*z) ?_ hq2 hg (by omega) (grownCap_le_maxLen w (n+m) c e hb2)));unfold upd;rw [if_pos rfl,hcs];rfl
          ·cases h
        ·split at h
         ·rename_i hcu hcz
          have hcz:=Nat.eq_of_beq_eq_true hcz;have:∃ B O N c',ρ b=some (B,O,N)∧s'=.slice (some ⟨B,O+o,none⟩) n c'∧n≤c'∧o+c'*z=N∧c'≤maxLen:=by
           cases hs' with
           | sl _ g=>unfold UNK at g hcz;omega
           | @su _ _ _ z' c' B O N e1 _ e2 e3 e4=>exact ⟨_,_,_,_,e1,rfl,e2,by rw [← e3];congr 2;unfold UNK at hcz;omega,e4⟩
           | s0=>unfold UNK at hcz;omega
          obtain ⟨B,O,N,c',eb,rfl,hnc,hN,hcm⟩:=this
          split at h
          ·rename_i hk
           have hk:=Nat.le_of_ble_eq_true hk
           split at h
           ·rename_i M'' hst
            cases h
            obtain ⟨a1,a2,a3,a4,a5⟩:=hM.st hst eb n1;have hroom:n+m≤c':=by
             have:=known_le hM eb;exact Nat.le_of_mul_le_mul_right (show (n+m)*z≤c'*z by omega) hq2
            have hr:=run_append_room_cells (P:=P) w t ty e i ht hi B (O+o) n c' ⟨BX,OX+ox,none⟩ m cx' news' n6 n4 n5 hroom (by rw [i1,Nat.add_assoc];exact a2) (by rw [i1,Nat.add_assoc];exact a3);rw [i1,Nat.add_assoc] at hr;refine ⟨ρ,_,_,hr,a5,a1,.one (.sc ?_)⟩;rw [hcz];exact .su eb hq2 hroom hN hcm
           ·cases h
          ·split at h
           ·rename_i olds nb tb hld2 hbb
            cases h
            obtain ⟨olds',o1,o2,o3⟩:=hM.ld hld2 eb;obtain ⟨c1,c2,c3⟩:=hM.cel _ _ _ _ _ _ hbb eb
            by_cases hroom:n+m≤c'
            ·have hfit:(n+m)*z≤c'*z:=Nat.mul_le_mul_right _ hroom;have k1:∀ j,j<news'.length→(w.cell? ⟨B,O+o+n*z+j,none⟩).isSome=true:=fun j hj=>by
              obtain ⟨u,u1,_,_⟩:=c3 (o+n*z+j) (by omega);rw [show O+o+n*z+j=O+(o+n*z+j) by omega,u1];rfl
             have k2:∀ j,j<news'.length→w.frozen? ⟨B,O+o+n*z+j,none⟩=false:=fun j hj=>by
              obtain ⟨u,_,u1,_⟩:=c3 (o+n*z+j) (by omega);rw [show O+o+n*z+j=O+(o+n*z+j) by omega];exact u1
             have hr:=run_append_room_cells (P:=P) w t ty e i ht hi B (O+o) n c' ⟨BX,OX+ox,none⟩ m cx' news' n6 n4 n5 hroom (by rw [i1];exact k1) (by rw [i1];exact k2);rw [i1] at hr;have ol:=o1.len;have nl:=n1.len;have ht2:Turn w0 w (w.setCells B (O+o+n*z) news') B O N:=Turn.sets news' w (O+o+n*z) O N hM.below c2 (by omega) (by omega);have hf:=hM.fork (n':=(olds++news).length) (t':=wr .e 0 (olds++news)) hbb eb ht2 (o:=o) (by omega) (by simp only [List.length_append];omega) (fun j hj=>by
              by_cases hin:n*z≤j∧j<n*z+news'.length
              ·have hk:j-n*z<news'.length:=by omega
               have e1:=World.cell?_setCells_in B news' (O+o+n*z) w k1 (j-n*z) hk;rw [show O+o+n*z+(j-n*z)=O+o+j by omega] at e1;refine ⟨_,e1,fun v _ hv=>?_⟩
               rcases get_wr _ _ _ _ _ hv with ⟨q,e2,e3⟩ | ⟨_,e3⟩
               ·rw [List.getElem?_append_right (by omega)] at e3;obtain ⟨u,u1,u2⟩:=n1.get e3;rw [show q-olds.length=j-n*z by omega,List.getElem?_eq_getElem hk] at u1
                cases u1;exact u2
               ·rw [T.get_e] at e3;cases e3
              ·obtain ⟨u,u1,_,_⟩:=c3 (o+j) (by omega);rw [← Nat.add_assoc] at u1;refine ⟨u,by rw [World.cell?_setCells_out B news' _ w _ (by intro _ _;dsimp only;omega)];exact u1,fun v hv1 hv=>?_⟩
               rcases get_wr _ _ _ _ _ hv with ⟨q,e2,e3⟩ | ⟨_,e3⟩
               ·have hq3:q<olds.length:=by
                 have:=(List.getElem?_eq_some_iff.1 e3).1;simp only [List.length_append] at this;omega
                rw [List.getElem?_append_left hq3] at e3;obtain ⟨u',a1,a2⟩:=o1.get e3;have:=o3 _ _ a1;rw [show q=j by omega,u1] at this
                cases this;exact a2
               ·rw [T.get_e] at e3;cases e3)
             refine ⟨_,_,_,hr,?_,hf,?_⟩
             ·refine ⟨fun x hx=>by unfold upd;rw [if_neg (by omega)],Nat.le_succ _,fun j y hj ej g=>?_⟩
              rcases Mem.get_put g with ⟨rfl,_⟩ | ⟨_,g⟩
              ·exact absurd hj (Nat.lt_irrefl _)
              ·rcases Mem.get_put g with ⟨rfl,_⟩ | ⟨_,g⟩
               ·rw [eb] at ej;cases ej
               ·exact g
             ·refine .one (.sc ?_);exact SR.su (B:=B) (O:=O+o) (N:=N-o) (o:=0) (by unfold upd;exact if_pos rfl) hq2 hroom (by omega) hcm
            ·have hr:=run_append_grow (P:=P) w t ty e i yzv ht hi hzi ⟨B,O+o,none⟩ n c' olds' (by rw [o2,i1]) (fun j u e=>by rw [Addr.add_lit];exact o3 j u e) ⟨BX,OX+ox,none⟩ m cx' news' n6 n4 (by omega) h63 (growslice_fits (by omega) (by rw [i2];exact hb1));have hg:=grownCap_ge w (n+m) c' e;have hcs:(olds'.toArray++news'.toArray++Builtin.zeroCells yzv.cells (grownCap w (n+m) c' e-(n+m))).size=grownCap w (n+m) c' e*z:=by
              have:=grown_size (a:=n) (b:=m) (g:=grownCap w (n+m) c' e) (z:=z) (p:=(Builtin.zeroCells yzv.cells (grownCap w (n+m) c' e-(n+m))).size) (by rw [size_zc,hzsz]) hg;simp only [Array.size_append,List.size_toArray,n2,o2] at this ⊢;exact this
             have hm':=(hM.dead b).drew.newCells (cs:=olds++news) (c:=olds'.toArray++news'.toArray++Builtin.zeroCells yzv.cells (grownCap w (n+m) c' e-(n+m))) e (by simp [n1.len,o1.len]) (fun j v hv=>pad olds news olds' news' _ o1 n1 j v hv);refine ⟨_,_,_,hr,(Grow.put eb).trans (Grow.newB (hM.dead b)),hm',?_⟩;refine .one (.sc (.su (B:=w.heap.size) (O:=0) (N:=grownCap w (n+m) c' e*z) ?_ hq2 hg (by omega) (grownCap_le_maxLen w (n+m) c' e hb2)));unfold upd;rw [if_pos (show M.nx=(M.put b Blk.dead).nx from rfl),hcs];rfl
           ·cases h
         ·cases h
       ·cases h
      ·cases h
    ·cases h
   ·cases h
  ·cases h
 ·cases h
theorem evCopy_run (hM:MR w0 ρ M w) {t u ty:TypeId} {d x d' x' v:Value} {M':Mem} (hd:VR ρ d d') (hx:VR ρ x x') (h:evCopy P M t d x=some (v,M')) :
  GoesOn w0 ρ M v M' fun v' w'=>(Builtin.copy_ #[t,u] ty #[d',x']).run P w=.ok v' w':=by
 unfold evCopy at h
 split at h
 ·rename_i e ht
  split at h
  ·rename_i z p n cn q m cm hz
   obtain ⟨p',cn',rfl, -⟩:=hd.sl_len;obtain ⟨q',cm',rfl, -⟩:=hx.sl_len
   split at h
   ·rename_i hk
    cases h
    refine ⟨ρ,_,w,?_,Grow.refl _ _,hM,.one (.sc (.int _ _))⟩;have hl:∀ (x:Addr),(loadCells x 0).run P w=.ok #[] w:=fun x=>by simpa using run_loadCells_list (P:=P) w x [] (by simp)
    cases p'<;>cases q'<;>simp [Builtin.copy_,run_underlying ht,Builtin.lenOf,Builtin.firstCells,run_szOf hz,hk,storeCells,hl,goInt]
   ·rename_i k hk
    have hm0:0<m:=by have:m.min n≤m:=Nat.min_le_left _ _;omega
    have hn0:0<n:=by have:m.min n≤n:=Nat.min_le_right _ _;omega
    split at h
    ·rename_i b o b' o'
     split at h
     ·rename_i cs hld
      split at h
      ·rename_i M'' hst
       cases h
       obtain ⟨B,O,N,_,e1,e2⟩:=hd.sl_inv hn0;obtain ⟨B',O',N',_,e3,e4⟩:=hx.sl_inv hm0
       injection e2 with e5 _ _
       injection e4 with e6 _ _
       subst e5 e6;obtain ⟨cs',c1,c2,c3⟩:=hM.ld hld e3;obtain ⟨a1,a2,a3,a4,a5⟩:=hM.st hst e1 c1;refine ⟨ρ,_,_,?_,a5,a1,.one (.sc (.int _ _))⟩;have hl:=run_loadCells_list (P:=P) w ⟨B',O'+o',none⟩ cs' (fun j v e=>by rw [Addr.add_lit];exact c3 j v e);rw [c2] at hl;have hst:=run_storeCells_cells (P:=P) B (O+o) cs' 0 w (by simpa using a2) (by simpa using a3) a4;simp only [Nat.add_zero] at hst;simp [Builtin.copy_,run_underlying ht,Builtin.lenOf,Builtin.firstCells,run_szOf hz,hk,hl,hst,goInt]
      ·cases h
     ·cases h
    ·cases h
  ·cases h
 ·cases h
theorem evClear_run (hM:MR w0 ρ M w) {t ty:TypeId} {x x' v:Value} {M':Mem} (hx:VR ρ x x') (h:evClear P M t x=some (v,M')) :
  GoesOn w0 ρ M v M' fun v' w'=>(Builtin.clear_ #[t] ty #[x']).run P w=.ok v' w':=by
 unfold evClear at h
 split at h
 ·rename_i e p n c ht
  obtain ⟨p',c',rfl, -⟩:=hx.sl_len
  split at h
  ·cases h
   refine ⟨ρ,_,w,?_,Grow.refl _ _,hM,.tup .nil⟩
   cases p'<;>simp [Builtin.clear_,run_underlying ht]
  ·rename_i hn
   have hn0:0<n:=Nat.pos_of_ne_zero hn
   split at h
   ·rename_i b o z hz
    split at h
    ·rename_i M'' hst hl
     cases h
     have hl:=blt_lt hl;obtain ⟨B,O,N,_,e1,e2⟩:=hx.sl_inv hn0
     injection e2 with e3 _ _
     subst e3;obtain ⟨yzv,z1,z2,yz3,yz4,_⟩:=zeroOf_run (ρ:=ρ) hz;obtain ⟨a1,a2,a3,a4,a5⟩:=hM.st hst e1 (zrep_LR yz4 n);refine ⟨ρ,_,_,?_,a5,a1,.tup .nil⟩;have hst:=run_storeCells_cells (P:=P) B (O+o) (zrep z n) 0 w (by simpa using a2) (by simpa using a3) a4;simp only [Nat.add_zero] at hst;have hzc:(Builtin.zeroCells yzv.cells n).toList=zrep z n:=by rw [zeroCells_list (by rw [← Array.length_toList,z1];exact hl),z1]
     obtain ⟨k,rfl⟩:∃ k,n=k+1:=⟨n-1,by omega⟩;simp [Builtin.clear_,run_underlying ht,yz3,hzc,hst]
    ·cases h
   ·cases h
 ·cases h
theorem evDelete_run (hM:MR w0 ρ M w) {t u ty:TypeId} {m k m' k' v:Value} {M':Mem} (hm:VR ρ m m') (hk:VR ρ k k') (h:evDelete P M t m k=some (v,M')) :
  GoesOn w0 ρ M v M' fun v' w'=>(Builtin.delete_ #[t,u] ty #[m',k']).run P w=.ok v' w':=by
 unfold evDelete at h
 split at h
 ·rename_i kt et b ht hp
  have hk':=hk.eq1 hp;subst hk';obtain ⟨B,O,N,e1,rfl⟩:=hm.map_inv
  split at h
  ·rename_i es c hb
   obtain ⟨_,rfl,e2⟩:=hM.mp _ _ _ _ _ _ hb e1;have hlt:B<w.heap.size:=hM.lim _ _ _ _ e1;have hg:(getObj B).run P w=.ok (.map es c) w:=by simp [getObj,Sem.run,e2]
   have hso:∀ o,(setObj B o).run P w=.ok () { w with heap:=w.heap.setIfInBounds B o }:=fun o=>by simp [setObj,Sem.run,e2]
   split at h
   ·rename_i a i x h1 h2
    cases h
    refine ⟨ρ,_,_,?_,Grow.put e1,hM.setObj hb e1 (.inl ⟨_,_,rfl⟩) (.inl ⟨_,_,rfl,rfl⟩),.tup .nil⟩;simp [Builtin.delete_,run_underlying ht,hg,prun_run _ _ _ h1,prun_run _ _ _ h2,hso]
   ·rename_i a h1 h2
    cases h
    refine ⟨ρ,_,_,?_,Grow.put e1,hM.setObj hb e1 (.inl ⟨_,_,rfl⟩) (.inl ⟨_,_,rfl,rfl⟩),.tup .nil⟩;simp [Builtin.delete_,run_underlying ht,hg,prun_run _ _ _ h1,prun_run _ _ _ h2,hso]
   ·cases h
  ·cases h
 ·cases h
theorem evMapUpdate_run (hM:MR w0 ρ M w) {t:TypeId} {m k x m' k' x' v:Value} {M':Mem} (hm:VR ρ m m') (hk:VR ρ k k') (hx:VR ρ x x') (h:evMapUpdate P M t m k x=some (v,M')) :
  GoesOn w0 ρ M v M' fun v' w'=>(Instr.mapUpdate t m' k' x').run P w=.ok () w'∧v'=undef:=by
 unfold evMapUpdate at h
 split at h
 ·rename_i kt et b ht hp
  obtain ⟨p1,p2⟩:=pl_and hp;have hk':=hk.eq1 p1;have hx':=hx.eq1 p2;subst hk' hx';obtain ⟨B,O,N,e1,rfl⟩:=hm.map_inv
  split at h
  ·rename_i es c hb
   obtain ⟨_,rfl,e2⟩:=hM.mp _ _ _ _ _ _ hb e1;have hg:(getObj B).run P w=.ok (.map es c) w:=by simp [getObj,Sem.run,e2]
   have hso:∀ o,(setObj B o).run P w=.ok () { w with heap:=w.heap.setIfInBounds B o }:=fun o=>by simp [setObj,Sem.run,e2]
   split at h
   ·rename_i a i y h1 h2
    split at h
    ·rename_i hsb
     cases h
     refine ⟨ρ,_,_,⟨?_,rfl⟩,Grow.put e1,hM.setObj hb e1 (.inl ⟨_,_,rfl⟩) (.inl ⟨_,_,rfl,rfl⟩),.undef⟩;simp [Instr.mapUpdate,run_underlying ht,hg,prun_run _ _ _ h1,prun_run _ _ _ h2,Instr.keyThatStays,hsb,hso]
    ·cases h
   ·rename_i a h1 h2
    cases h
    refine ⟨ρ,_,_,⟨?_,rfl⟩,Grow.put e1,hM.setObj hb e1 (.inl ⟨_,_,rfl⟩) (.inl ⟨_,_,rfl,rfl⟩),.undef⟩;simp [Instr.mapUpdate,run_underlying ht,hg,prun_run _ _ _ h1,prun_run _ _ _ h2,hso]
   ·cases h
  ·cases h
 ·cases h
theorem evNext_run (hM:MR w0 ρ M w) {r:Nat} {ty:TypeId} {v:Value} {M':Mem} {B O N:Nat} (hr:ρ r=some (B,O,N)) (h:evNext M r=some (v,M')) :
  GoesOn w0 ρ M v M' fun v' w'=>(Instr.next (.pointer (some ⟨B,O+0,none⟩)) false ty).run P w=.ok v' w':=by
 unfold evNext at h
 split at h
 ·rename_i m since seen last hit
  obtain ⟨_,rfl,mB,mO,mN,d1,d2⟩:=hM.it _ _ _ _ _ _ _ _ hit hr
  split at h
  ·rename_i es c hmp
   obtain ⟨_,_,d3⟩:=hM.mp _ _ _ _ _ _ hmp d1;have hg:(getObj B).run P w=.ok (.mapIter (some mB) since seen last) w:=by simp [getObj,Sem.run,d2]
   have hg2:(getObj mB).run P w=.ok (.map es c) w:=by simp [getObj,Sem.run,d3]
   split at h
   ·cases h
   ·rename_i hc
    dsimp only at h
    split at h
    ·rename_i h1 h2
     cases h
     refine ⟨ρ,_,w,?_,Grow.refl _ _,hM,.tup (.cons (.sc (.bool _)) .nil)⟩;have e1 : (es.filter fun e=>!seen.contains e.born).filter (·.born < since) = #[]:=Array.toList_inj.1 h1;have e2 : (es.filter fun e=>!seen.contains e.born).filter (·.born ≥ since) = #[]:=Array.toList_inj.1 h2;simp only [Instr.next,Sem.run_bind,hg,hg2,Result.andThen,hc,e1,e2];simp [Question.forced]
    ·rename_i e h1 h2
     split at h
     ·rename_i hp
      cases h
      obtain ⟨p1,p2⟩:=pl_and hp;have e1 : (es.filter fun e=>!seen.contains e.born).filter (·.born < since) = #[e]:=Array.toList_inj.1 h1;have e2 : (es.filter fun e=>!seen.contains e.born).filter (·.born ≥ since) = #[]:=Array.toList_inj.1 h2;refine ⟨ρ,_,{ w with heap:=w.heap.setIfInBounds B (.mapIter (some mB) since (seen.push e.born) c) },?_,Grow.put hr,hM.setObj hit hr (.inr ⟨_,_,_,_,rfl⟩) (.inr ⟨_,_,_,_,_,_,_,rfl,d1,rfl⟩),.tup (.cons (.sc (.bool _)) (.cons (V1.refl1 p1) (.cons (V1.refl1 p2) .nil)))⟩;simp only [Instr.next,Sem.run_bind,hg,hg2,Result.andThen,hc,e1,e2];simp [Question.forced,setObj,Sem.run,d2]
     ·cases h
    ·cases h
  ·cases h
 ·cases h
end
end
noncomputable section
section
variable {P:Program} {ρ:Rho} {ev:Operand→Option Value} {ρe:Operand→Value} {w0 w:World} {M:Mem}
theorem run_fillZero {zs : List Value} {yzv : Value} {z len : Nat} (z1 : yzv.cells.toList = zs) (hq1 : zs.length = z) (hq2 : 0 < z) : ((Array.range (len * z)).map (yzv.cells[· % yzv.cells.size]!)).toList = zrep zs len:=by
 have hs:yzv.cells.size=z:=by rw [← Array.length_toList,z1,hq1]
 rw [← z1];exact zrep_map (by rw [hs]) (by omega)
theorem evW_run (hM:MR w0 ρ M w) {o:Oper} {v:Value} {M':Mem} (he:∀ x u,ev x=some u→VR ρ u (ρe x)) (h:evW P ev M o=some (v,M')):GoesOn w0 ρ M v M' (Gives P (execOp ρe o) w):=by
 obtain ⟨dst,op,type,pos,after,guard⟩:=o;have val:∀ {s:Sem Value} {op:Op},(execOp ρe ⟨dst,op,type,pos,after,guard⟩)=(do pure (.value (← s)))→∀ v' w',s.run P w=.ok v' w'→Gives P (execOp ρe ⟨dst,op,type,pos,after,guard⟩) w v' w':=fun e v' w' h=>.inl (by rw [e,Sem.run_bind,h];rfl);unfold evW at h;dsimp only at h
 split at h
 ·rename_i t
  unfold eAlloc at h
  split at h
  ·rename_i z hz
   cases h
   obtain ⟨yzv,z1,z2,yz3,_⟩:=zeroOf_run (ρ:=ρ) hz;refine ⟨_,_,_,val (s:=Instr.alloc t true (.tuple #[])) rfl _ _ (by simp [Instr.alloc,yz3,newVar,newRow];rfl),Grow.newB hM,hM.newLR t (c:=yzv.cells) (by rw [z1];exact z2),.one (.sc ?_)⟩;exact SR.ptr (O:=0) (N:=yzv.cells.size) (if_pos rfl)
  ·cases h
 ·rename_i t x
  unfold eBox at h
  split at h
  ·rename_i u hu
   split at h
   ·rename_i cs hcs
    cases h
    have hx:=he _ _ hu;have hc:LR (SR ρ) cs (ρe x).cells.toList:=by
     generalize ρe x=y at hx
     cases hx with
     | one hx=>exact hx.cells hcs
     | tup _=>simp [cellsOf] at hcs
    refine ⟨_,_,_,val (s:=Instr.box t (ρe x)) rfl _ _ (by simp [Instr.box,newVar,newRow];rfl),Grow.newB hM,hM.newLR t hc,.one (.sc ?_)⟩;exact SR.ptr (O:=0) (N:=(ρe x).cells.size) (if_pos rfl)
   ·cases h
  ·cases h
 ·rename_i t len parts
  unfold eBS at h
  split at h
  ·rename_i e ht
   split at h
   ·rename_i z zs ps hz hzs hps
    split at h
    ·rename_i hq
     simp only [Bool.and_eq_true] at hq;obtain ⟨⟨q1,q2⟩,q3⟩:=hq;have q1:=Nat.eq_of_beq_eq_true q1;have q2:=blt_lt q2;have q3:=Nat.le_of_ble_eq_true q3
     split at h
     ·rename_i cs hf
      cases h
      obtain ⟨yzv,z1,z2,yz3,yz4,_⟩:=zeroOf_run (ρ:=ρ) hzs;have hsz:yzv.cells.size=z:=by rw [← Array.length_toList,z1,q1]
      have hlz:=run_fillZero (len:=len) z1 q1 q2;have hs:=evParts_spec he _ _ hps;obtain ⟨r',r1,r2⟩:=evFill_spec (ρ:=ρ) (place':=fun i=>some (i * z,z)) (fun i=>rfl) _ (parts.map fun (i,x)=>(i,ρe x)).toList _ ((Array.range (len * z)).map (yzv.cells[· % yzv.cells.size]!)) _ (by simpa using hs) (by rw [hlz];exact zrep_LR yz4 len) hf;refine ⟨_,_,_,val (s:=Instr.buildSlice t len (parts.map fun (i,x)=>(i,ρe x))) rfl (.slice (some ⟨w.heap.size,0,none⟩) len len) (w.alloc (.cells r' e)) ?_,Grow.newB hM,hM.newLR e r2,.one (.sc ?_)⟩
      ·have hpos2:¬ (16777216<len*z):=by omega
       simp only [Instr.buildSlice,Sem.run_bind,run_underlying ht,Result.andThen_ok,run_szOf hz]
       by_cases hpos:len*z=0
       ·rw [hpos] at r1 ⊢;have e0:∀ (f:Nat→Value),Array.map f (Array.range 0)=#[]:=fun f=>by simp
        rw [e0] at r1;simp only [if_true,Sem.run_pure,Result.andThen_ok,e0];simp at r1;simp [r1,newRow]
       ·simp [hpos,hpos2,yz3];simp only [Array.size_range] at r1;rw [show (Instr.fill (fun i=>some (i*z,z)) (Array.map (fun x=>yzv.cells[x%yzv.cells.size]!) (Array.range (len*z))) (List.map (fun x=>(x.1,ρe x.2)) parts.toList))=some r' by simpa using r1];simp [newRow]
      ·have:=SR.sl (ρ:=upd ρ M.nx (w.heap.size,0,r'.size)) (b:=M.nx) (o:=0) (n:=len) (c:=len) (O:=0) (B:=w.heap.size) (N:=r'.size) (if_pos rfl) (by
        have:len≤len*z:=Nat.le_mul_of_pos_right _ q2;show len<4611686018427387904;omega)
       exact this
     ·cases h
    ·cases h
   ·cases h
  ·cases h
 ·rename_i t l c
  unfold eMS at h
  split at h
  ·rename_i e kl n kc k ht hl hc
   split at h
   ·rename_i z zs y hz hzs hy
    split at h
    ·rename_i hq
     cases h
     simp only [Bool.and_eq_true] at hq;obtain ⟨⟨⟨⟨⟨q1,q2⟩,q3⟩,q4⟩,q5⟩,q6⟩:=hq;have q1:=Nat.eq_of_beq_eq_true q1;have q2:=blt_lt q2;have q3:=Nat.le_of_ble_eq_true q3;have q4:=Nat.le_of_ble_eq_true q4;have q5:=Nat.le_of_ble_eq_true q5;have q6:=blt_lt q6;obtain ⟨yzv,z1,z2,yz3,yz4,i,hi,hzi⟩:=zeroOf_run (ρ:=ρ) hzs;obtain ⟨i1,i2⟩:=szBy hi hz hy;have e1:=(he _ _ hl).int_inv;have e2:=(he _ _ hc).int_inv;have hsz:yzv.cells.size=z:=by rw [← Array.length_toList,z1,q1]
     have hr:=run_make (P:=P) w t e i yzv ht hi hzi kl kc (n:Int) (k:Int) (Int.natCast_nonneg n) (by omega) (by rw [i2];have:=Int.ofNat_le.2 q4;rw [Int.natCast_mul] at this;exact this) (Int.ofNat_le.2 q5);simp only [Int.toNat_natCast] at hr;rw [i1] at hr;have hmk:(madeCells yzv.cells (k*z)).toList=zrep zs k:=by unfold madeCells;exact run_fillZero z1 q1 q2
     refine ⟨_,_,_,val (s:=Instr.makeSlice t (ρe l) (ρe c)) rfl _ _ (by rw [e1,e2];exact hr),Grow.newB hM,hM.newLR e (by rw [hmk];exact zrep_LR yz4 k),.one (.sc ?_)⟩;have:=SR.sl (ρ:=upd ρ M.nx (w.heap.size,0,(madeCells yzv.cells (k*z)).size)) (b:=M.nx) (o:=0) (n:=n) (c:=k) (O:=0) (B:=w.heap.size) (N:=(madeCells yzv.cells (k*z)).size) (if_pos rfl) q6;exact this
    ·cases h
   ·cases h
  ·cases h
 ·rename_i t x y
  unfold eStore at h
  split at h
  ·rename_i b off u n hx hy hn
   split at h
   ·rename_i cs hcs
    split at h
    ·rename_i M'' hl hst
     cases h
     have hl:=Nat.eq_of_beq_eq_true hl;obtain ⟨B,O,N,e1,e2⟩:=(he _ _ hx).ptr_inv;have hyr:=he _ _ hy;have hc:LR (SR ρ) cs (ρe y).cells.toList:=by
      generalize ρe y=y at hyr
      cases hyr with
      | one hx=>exact hx.cells hcs
      | tup _=>simp [cellsOf] at hcs
     obtain ⟨a1,a2,a3,a4,a5⟩:=hM.st hst e1 hc;have hlen:=hc.len;have hs:=run_storeCells_cells (P:=P) B (O+off) (ρe y).cells.toList 0 w (by simpa using a2) (by simpa using a3) a4;simp only [Nat.add_zero] at hs;refine ⟨ρ,undef,_,.inr ⟨?_,rfl⟩,a5,a1,.undef⟩;have hsz:(ρe y).cells.size=n:=by rw [← Array.length_toList,← hlen,hl]
     simp only [execOp,e2];simp [Instr.storeAt,Instr.sureAddr,storeVar,run_szOf hn,hsz,hs]
    ·cases h
   ·cases h
  ·cases h
 ·rename_i t
  cases h
  refine ⟨_,_,_,val (s:=Instr.makeMap t none) (by rfl) (.map (some w.heap.size)) (w.alloc (.map #[] 0)) rfl,Grow.newB hM,?_,.one (.sc (SR.map (O:=0) (N:=0) (if_pos rfl)))⟩;have hz:ρ M.nx=none:=hM.fresh _ (Nat.le_refl _);refine ((hM.hole hz (.mp #[] 0)).raise (Nat.le_succ _)).fillObj hz (Nat.lt_succ_self _) _ fun y hy=>?_
  rcases Mem.get_put hy with ⟨_,e⟩ | ⟨e,_⟩
  ·exact .inl ⟨_,_,e,rfl⟩
  ·exact absurd rfl e
 ·rename_i t m k x
  unfold eMU at h
  split at h
  ·rename_i m' k' x' hm hk hx
   have:=evMapUpdate_run (P:=P) hM (he _ _ hm) (he _ _ hk) (he _ _ hx) h;refine this.mono fun v' w' hr=>.inr ⟨?_,hr.2⟩;simp only [execOp];rw [Sem.run_bind,hr.1];rfl
  ·cases h
 ·rename_i t x
  unfold eRange at h
  split at h
  ·rename_i kt et b ht hx
   split at h
   ·rename_i es c hb
    cases h
    obtain ⟨B,O,N,e1,e2⟩:=(he _ _ hx).map_inv;obtain ⟨_,rfl,e3⟩:=hM.mp _ _ _ _ _ _ hb e1;have hr:=run_range_map (P:=P) w t kt et B es c ht e3;refine ⟨_,_,_,val (s:=Instr.range t (ρe x)) rfl _ _ (by rw [e2];exact hr),Grow.newB hM,?_,.one (.sc (SR.ptr (O:=0) (N:=0) (if_pos rfl)))⟩;have hz:ρ M.nx=none:=hM.fresh _ (Nat.le_refl _);refine ((hM.hole hz (.it b c #[] c)).raise (Nat.le_succ _)).fillObj hz (Nat.lt_succ_self _) _ fun y hy=>?_
    rcases Mem.get_put hy with ⟨_,e⟩ | ⟨e,_⟩
    ·exact .inr ⟨_,_,_,_,_,_,_,e,e1,rfl⟩
    ·exact absurd rfl e
   ·cases h
  ·cases h
 ·rename_i x
  unfold eNext at h
  split at h
  ·rename_i r hx
   obtain ⟨B,O,N,e1,e2⟩:=(he _ _ hx).ptr_inv;have hO:O=0:=by
    unfold evNext at h
    split at h
    ·rename_i hit;exact (hM.it _ _ _ _ _ _ _ _ hit e1).2.1
    ·cases h
   subst hO;have:=evNext_run (P:=P) (ty:=type) hM e1 h;refine this.mono fun v' w' hr=>val (s:=Instr.next (ρe x) false type) rfl _ _ (by rw [e2];exact hr)
  ·cases h
 ·rename_i c
  unfold eBW at h;obtain ⟨callee,args,ats⟩:=c;dsimp only at h
  split at h
  ·rename_i b
   split at h
   ·rename_i t ts l h0 hl
    have hl':=evAll_spec he _ _ hl;have hx:(execOp ρe ⟨dst,.call ⟨.builtin b,args,ats⟩,type,pos,after,guard⟩)=builtin b ats type (args.map fun | .const _=>true | _=>false) (args.map ρe):=rfl;have two:∀ {s x},l=[s,x]→∃ s' x',args.map ρe=#[s',x']∧VR ρ s s'∧VR ρ x x':=fun {s x} e=>by
     subst e
     cases hm:args.toList.map ρe with
     | nil=>rw [hm] at hl';cases hl'
     | cons y ys =>
      rw [hm] at hl'
      cases hl' with
      | cons r1 r2=>cases r2 with
       | cons r2 r3=>cases r3 with
        | nil=>exact ⟨_,_,by apply Array.toList_inj.1;rw [Array.toList_map,hm],r1,r2⟩
    have onev:∀ {s},l=[s]→∃ s',args.map ρe=#[s']∧VR ρ s s':=fun {s} e=>by
     subst e
     cases hm:args.toList.map ρe with
     | nil=>rw [hm] at hl';cases hl'
     | cons y ys =>
      rw [hm] at hl'
      cases hl' with
      | cons r1 r2=>cases r2 with
       | nil=>exact ⟨_,by apply Array.toList_inj.1;rw [Array.toList_map,hm],r1⟩
    split at h
    ·rename_i t' s x
     split at h
     ·rename_i htt
      have htt:=Nat.eq_of_beq_eq_true htt;subst htt;obtain ⟨s',x',a1,a2,a3⟩:=two rfl;have hats:ats=#[t,t]:=Array.toList_inj.1 h0;refine (evAppend_run (P:=P) (ty:=type) hM a2 a3 h).mono fun v' w' hr=>.inl ?_;rw [hx,a1,hats];show (do pure (.value (← Builtin.append_ #[t,t] type #[s',x'])):Sem Next).run P w=_;rw [Sem.run_bind,hr];rfl
     ·cases h
    ·rename_i d x
     obtain ⟨s',x',a1,a2,a3⟩:=two rfl;refine (evCopy_run (P:=P) (u:=t) (ty:=type) hM a2 a3 h).mono fun v' w' hr=>.inl ?_;have hc:Builtin.copy_ ats type #[s',x']=Builtin.copy_ #[t,t] type #[s',x']:=by
      have:ats[0]?=some t:=by rw [← Array.getElem?_toList,h0];rfl
      unfold Builtin.copy_;rw [this];rfl
     rw [hx,a1];show (do pure (.value (← Builtin.copy_ ats type #[s',x'])):Sem Next).run P w=_;rw [Sem.run_bind,hc,hr];rfl
    ·rename_i x
     obtain ⟨s',a1,a2⟩:=onev rfl;refine (evClear_run (P:=P) (ty:=type) hM a2 h).mono fun v' w' hr=>.inl ?_;have hc:Builtin.clear_ ats type #[s']=Builtin.clear_ #[t] type #[s']:=by
      have:ats[0]?=some t:=by rw [← Array.getElem?_toList,h0];rfl
      unfold Builtin.clear_;rw [this];rfl
     rw [hx,a1];show (do pure (.value (← Builtin.clear_ ats type #[s'])):Sem Next).run P w=_;rw [Sem.run_bind,hc,hr];rfl
    ·rename_i m k
     obtain ⟨s',x',a1,a2,a3⟩:=two rfl;refine (evDelete_run (P:=P) (u:=t) (ty:=type) hM a2 a3 h).mono fun v' w' hr=>.inl ?_;have hc:Builtin.delete_ ats type #[s',x']=Builtin.delete_ #[t,t] type #[s',x']:=by
      have:ats[0]?=some t:=by rw [← Array.getElem?_toList,h0];rfl
      unfold Builtin.delete_;rw [this];rfl
     rw [hx,a1];show (do pure (.value (← Builtin.delete_ ats type #[s',x'])):Sem Next).run P w=_;rw [Sem.run_bind,hc,hr];rfl
    ·cases h
   ·cases h
  ·cases h
 ·cases h
end
end
noncomputable section
def kd:Op→Nat
 | .move _=>0
 | .assign _=>0
 | .pick _ _ _=>0
 | .binOp _ _ _ _ _=>0
 | .unOp _ _ _=>0
 | .convert _ _ _=>0
 | .build _ _=>0
 | .nilCheck _=>0
 | .fieldAddr _ _ _=>0
 | .field _ _ _=>0
 | .indexAddr _ _ _=>0
 | .index _ _ _=>0
 | .extract _ _=>0
 | .makeFunc _ _ _=>0
 | .load _ _=>1
 | .slice _ _ _ _ _=>1
 | .entry _=>1
 | .call c=>match c.callee with
  | .builtin .len=>0
  | .builtin .min=>0
  | .builtin .max=>0
  | _=>2
 | _=>2
abbrev Cl:=FuncId→List Value→Mem→Option (Value×Mem)
def hasBody (P:Program) (f:FuncId):Bool :=
 match P.funcs[f]? with
 | some fn => match fn.body, fn.name == "runtime.NumGoroutine" with
  | some _,false=>true
  | _,_=>false
 | none=>false
def evC (P:Program) (cl:Cl) (ev:Operand→Option Value) (M:Mem) (o:Oper):Option (Value×Mem) :=
 match o.op with
 | .call c=>match c.callee with
  | .value f=>match ev f,evAll ev c.args.toList with
   | some (.func (.func g) first cap),some l=>match first.toList,hasBody P g with
    | [],true=>cl g (l++cap.toList) M
    | _,_=>none
   | _,_=>none
  | _=>none
 | _=>none
def evOW (P:Program) (cl:Cl) (ev:Operand→Option Value) (M:Mem) (o:Oper):Option (Value×Mem) :=
 match o.op with
 | .call c=>match c.callee with
  | .value _=>evC P cl ev M o
  | _=>evW P ev M o
 | _=>evW P ev M o
def evO (P:Program) (cl:Cl) (ev:Operand→Option Value) (M:Mem) (o:Oper):Option (Value×Mem) :=
 match kd o.op with
 | 0=>match evP P ev o with
  | some v=>some (v,M)
  | none=>none
 | 1=>match evR P ev M o with
  | some v=>some (v,M)
  | none=>none
 | _=>evOW P cl ev M o
def Fits (P:Program) (w0:World) (G:Nat) (cl:Cl):Prop:=∀ g l M v M',cl g l M=some (v,M')→∀ ρ w (l':Array Value),(∃ N,ρ G=some (G,0,N))→MR w0 ρ M w→LR (VR ρ) l l'.toList →
 Calls P g l' w fun e w'=>∃ v',e=.returned v'∧∃ ρ',Grow ρ M ρ' M'∧MR w0 ρ' M' w'∧VR ρ' v v'
section
variable {P:Program} {ρ:Rho} {ev:Operand→Option Value} {w0 w:World} {M:Mem} {cl:Cl} {G:Nat}
theorem upon_gives {o:Oper} {a:Act} {next:Act→World→Prop} {Q:Exit→Act→World→Prop} {v':Value} {w':World} (h:Gives P (execOp a.eval o) w v' w') (k:next (a.put o.dst v') w'):o.wp P a w next Q:=by
 unfold Oper.wp
 rcases h with h | ⟨h,rfl⟩
 ·rw [h];exact k
 ·rw [h];exact k
theorem LR_VR_of_SR {l m:List Value} (h:LR (SR ρ) l m):LR (VR ρ) l m:=h.mono fun _ _ r=>.one (.sc r)
theorem evC_wp (hM:MR w0 ρ M w) (hcl:Fits P w0 G cl) (hgl:∃ N,ρ G=some (G,0,N)) {o:Oper} {a:Act} {v:Value} {M':Mem} (he:∀ x u,ev x=some u→VR ρ u (a.eval x)) (h:evC P cl ev M o=some (v,M')) {next:Act→World→Prop} {Q:Exit→Act→World→Prop}
  (k:∀ ρ' v' w',Grow ρ M ρ' M'→MR w0 ρ' M' w'→VR ρ' v v'→next (a.put o.dst v') w'):o.wp P a w next Q:=by
 obtain ⟨dst,op,type,pos,after,guard⟩:=o;unfold evC at h;dsimp only at h
 split at h
 ·rename_i c
  obtain ⟨callee,args,ats⟩:=c;dsimp only at h
  split at h
  ·rename_i f
   split at h
   ·rename_i g first cap l hf hl
    split at h
    ·rename_i h0 hb
     have e0:first=#[]:=Array.toList_inj.1 h0;subst e0;obtain ⟨ys,e1,e2⟩:=(he _ _ hf).fn_inv;have hl':=evAll_spec he _ _ hl;unfold hasBody at hb
     split at hb
     ·rename_i fn hfn
      split at hb
      ·rename_i code hbody hname
       have hr:(execOp a.eval ⟨dst,.call ⟨.value f,args,ats⟩,type,pos,after,guard⟩).run P w=.ok (.enter g (args.map a.eval++ys)) w:=by
        have hcf:(callFunc g (args.map a.eval++ys)).run P w=.ok (.enter g (args.map a.eval++ys)) w:=by
         have hname' : ¬ fn.name = "runtime.NumGoroutine" := by simpa using hname
         simp [callFunc,hfn,hname',hbody]
        simp only [execOp,resolve,e1,Deferred.ofValue];rw [Sem.run_bind];show ((pure { target:=.fn (.func g) ys,args:=#[]++args.map a.eval }:Sem Deferred).run P w).andThen _=_;simp only [Array.empty_append];exact hcf
       unfold Oper.wp;rw [hr];have hc:=hcl _ _ _ _ _ h ρ w (args.map a.eval++ys) hgl hM (by rw [Array.toList_append,Array.toList_map];exact hl'.append (LR_VR_of_SR e2));refine hc.mono ?_;rintro e w' ⟨v',rfl,ρ',g1,g2,g3⟩;exact k ρ' v' w' g1 g2 g3
      ·cases hb
     ·cases hb
    ·cases h
   ·cases h
  ·cases h
 ·cases h
theorem evOW_wp (hM:MR w0 ρ M w) (hcl:Fits P w0 G cl) (hgl:∃ N,ρ G=some (G,0,N)) {o:Oper} {a:Act} {v:Value} {M':Mem} (he:∀ x u,ev x=some u→VR ρ u (a.eval x)) (h:evOW P cl ev M o=some (v,M')) {next:Act→World→Prop} {Q:Exit→Act→World→Prop}
  (k:∀ ρ' v' w',Grow ρ M ρ' M'→MR w0 ρ' M' w'→VR ρ' v v'→next (a.put o.dst v') w'):o.wp P a w next Q:=by
 have hW:evW P ev M o=some (v,M')→o.wp P a w next Q:=fun h=>by
  obtain ⟨ρ',v',w',g,g1,g2,g3⟩:=evW_run hM he h;exact upon_gives g (k ρ' v' w' g1 g2 g3)
 unfold evOW at h
 split at h
 ·split at h
  ·exact evC_wp hM hcl hgl he h k
  ·exact hW h
 ·exact hW h
theorem evO_wp (hM:MR w0 ρ M w) (hcl:Fits P w0 G cl) (hgl:∃ N,ρ G=some (G,0,N)) {o:Oper} {a:Act} {v:Value} {M':Mem} (he:∀ x u,ev x=some u→VR ρ u (a.eval x)) (h:evO P cl ev M o=some (v,M')) {next:Act→World→Prop} {Q:Exit→Act→World→Prop}
  (k:∀ ρ' v' w',Grow ρ M ρ' M'→MR w0 ρ' M' w'→VR ρ' v v'→next (a.put o.dst v') w'):o.wp P a w next Q:=by
 unfold evO at h
 split at h
 ·split at h
  ·rename_i u hu
   cases h
   obtain ⟨v',r1,r2⟩:=evP_run he hu;exact upon_gives (.inl (r2 w)) (k ρ v' w (Grow.refl _ _) hM r1)
  ·cases h
 ·split at h
  ·rename_i u hu
   cases h
   obtain ⟨v',r1,r2⟩:=evR_run hM he hu;exact upon_gives (.inl r2) (k ρ v' w (Grow.refl _ _) hM r1)
  ·cases h
 ·exact evOW_wp hM hcl hgl he h k
end
def opv (G:Nat) (tv:T Value):Operand→Option Value
 | .tmp t=>tv.get t
 | .const v=>match pl v with
  | true=>some v
  | false=>none
 | .global g=>match Nat.beq g G with
  | true=>some (.pointer (some ⟨g,0,none⟩))
  | false=>none
 | .func f=>some (.func (.func f) #[] #[])
structure TR (G:Nat) (ρ:Rho) (sz:Nat) (tv:T Value) (a:Act):Prop where
 defers:a.defers=[]
 size:a.tmps.size=sz
 tmp:∀ t v,tv.get t=some v→∃ v',a.tmps[t]?=some v'∧VR ρ v v'
 glob:∃ N,ρ G=some (G,0,N)
theorem TR.ev {G:Nat} {ρ:Rho} {sz:Nat} {tv:T Value} {a:Act} (h:TR G ρ sz tv a):∀ x u,opv G tv x=some u→VR ρ u (a.eval x)
 | .tmp t,u,e=>by
  obtain ⟨v',e1,e2⟩:=h.tmp t u e;show VR ρ u (a.tmps.getD t undef);rw [show a.tmps.getD t undef=v' by rw [Array.getD_eq_getD_getElem?,e1];rfl];exact e2
 | .const v,u,e=>by
  unfold opv at e;dsimp only at e
  split at e
  ·rename_i hp;cases e;exact .one (V1.refl1 hp)
  ·cases e
 | .global g,u,e=>by
  unfold opv at e;dsimp only at e
  split at e
  ·rename_i hg
   cases e
   have hg:=Nat.eq_of_beq_eq_true hg;subst hg;obtain ⟨N,e1⟩:=h.glob;exact .one (.sc (SR.ptr (O:=0) (o:=0) e1))
  ·cases e
 | .func f,u,e=>by cases e;exact .one (.fn .nil)
theorem TR.mono {G:Nat} {ρ ρ':Rho} {sz:Nat} {tv:T Value} {a:Act} (h:TR G ρ sz tv a) (s:Sub ρ ρ'):TR G ρ' sz tv a :=
 ⟨h.defers,h.size,fun t v e=>let ⟨v',a,b⟩:=h.tmp t v e; ⟨v',a,b.mono s⟩,let ⟨N,e⟩:=h.glob; ⟨N,s _ _ e⟩⟩
def putT (sz:Nat) (tv:T Value) (d:Option Tmp) (v:Value):Option (T Value) :=
 match d with
 | none=>some tv
 | some d=>match Nat.blt d sz with
  | true=>some (tv.set FU d v)
  | false=>none
theorem TR.put {G:Nat} {ρ:Rho} {sz:Nat} {tv tv':T Value} {a:Act} (h:TR G ρ sz tv a) {d:Option Tmp} {v v':Value} (hp:putT sz tv d v=some tv') (hv:VR ρ v v'):TR G ρ sz tv' (a.put d v'):=by
 unfold putT at hp
 split at hp
 ·cases hp;exact h
 ·rename_i d
  split at hp
  ·rename_i hd
   cases hp
   have hd:=blt_lt hd;refine ⟨h.defers,by simp [Act.put,h.size],fun t u e=>?_,h.glob⟩;simp only [Act.put]
   rcases T.get_set _ _ _ _ _ _ e with ⟨rfl,rfl⟩ | ⟨hne,e2⟩
   ·exact ⟨v',by rw [Array.getElem?_setIfInBounds_self_of_lt (by rw [h.size];exact hd)],hv⟩
   ·rw [Array.getElem?_setIfInBounds_ne (Ne.symm hne)];exact h.tmp t u e2
  ·cases hp
def gd (ops:Array Oper) (ev:Operand→Option Value) (o:Oper):Option Bool :=
 match o.guard with
 | none=>some true
 | some (j,want)=>match (ops[j]?).bind (·.dst) with
  | some d=>match ev (.tmp d) with
   | some (.bool b)=>some (b==want)
   | some (.tuple _)=>some false
   | _=>none
  | none=>none
theorem gd_wanted {ops:Array Oper} {ev:Operand→Option Value} {o:Oper} {b:Bool} {a:Act} {ρ:Rho} (he:∀ d u,ev (.tmp d)=some u→∃ v',a.tmps[d]?=some v'∧VR ρ u v') (h:gd ops ev o=some b):Region.wanted o (yielded ops a.tmps)=b:=by
 unfold gd at h;unfold Region.wanted
 split at h
 ·rename_i hg;cases h;rw [hg]
 ·rename_i j want hg
  rw [hg];dsimp only
  split at h
  ·rename_i d hd
   split at h
   ·rename_i x hx
    cases h
    obtain ⟨v',e1,e2⟩:=he _ _ hx;have e3:=e2.bool_inv;subst e3;unfold yielded;rw [hd];simp only [Option.bind_some,e1]
    cases x<;>cases want<;>rfl
   ·rename_i x hx
    cases h
    obtain ⟨v',e1,e2⟩:=he _ _ hx;obtain ⟨ys,rfl,_⟩:=e2.tup_inv;unfold yielded;rw [hd];simp only [Option.bind_some,e1]
    rfl
   ·cases h
  ·cases h
def stepOps (P:Program) (cl:Cl) (G sz:Nat) (ops:Array Oper) (o:Oper) (k:T Value→Mem→Option (T Value×Mem)) (tv:T Value) (M:Mem):Option (T Value×Mem) :=
 match gd ops (opv G tv) o with
 | none=>none
 | some false=>match putT sz tv o.dst undef with
  | some tv'=>k tv' M
  | none=>none
 | some true=>match evO P cl (opv G tv) M o with
  | none=>none
  | some (v,M')=>match putT sz tv o.dst v with
   | some tv'=>k tv' M'
   | none=>none
def evOps (P:Program) (cl:Cl) (G sz:Nat) (ops:Array Oper) (l:List Oper):T Value→Mem→Option (T Value×Mem) :=
 List.rec (motive:=fun _=>T Value→Mem→Option (T Value×Mem)) (fun tv M=>some (tv,M)) (fun o _ ih=>stepOps P cl G sz ops o ih) l
theorem TR.gdev {G:Nat} {ρ:Rho} {sz:Nat} {tv:T Value} {a:Act} (h:TR G ρ sz tv a):∀ d u,opv G tv (.tmp d)=some u→∃ v',a.tmps[d]?=some v'∧VR ρ u v':=fun d u e=>h.tmp d u e
theorem evOps_wp {P:Program} {cl:Cl} {G sz:Nat} {ops:Array Oper} {w0:World} (hcl:Fits P w0 G cl) {Q:Exit→Act→World→Prop}:∀ (l:List Oper) (is:List Nat) (tv:T Value) (M:Mem) (ρ:Rho) (a:Act) (w:World) (tv':T Value) (M':Mem),
  is.map (fun i=>ops[i]?)=l.map some→evOps P cl G sz ops l tv M=some (tv',M')→TR G ρ sz tv a→MR w0 ρ M w →
  (∀ ρ' a' w',Grow ρ M ρ' M'→MR w0 ρ' M' w'→TR G ρ' sz tv' a'→Q .normal a' w')→wpOps P ops Q is a w
 | [],[],tv,M,ρ,a,w,tv',M',_,h,hT,hM,k=>by cases h;exact k ρ a w (Grow.refl _ _) hM hT
 | [],_::_,_,_,_,_,_,_,_,e,_,_,_,_=>by simp at e
 | _::_,[],_,_,_,_,_,_,_,e,_,_,_,_=>by simp at e
 | o::l,i::is,tv,M,ρ,a,w,tv',M',e,h,hT,hM,k=>by
  simp only [List.map_cons,List.cons.injEq] at e;obtain ⟨e1,e2⟩:=e;rw [wpOps_cons];unfold wpOp;rw [e1];dsimp only
  change stepOps P cl G sz ops o (evOps P cl G sz ops l) tv M=some (tv',M') at h
  unfold stepOps at h
  split at h
  ·cases h
  ·rename_i hg
   rw [gd_wanted hT.gdev hg]
   split at h
   ·rename_i tv1 hp
    simp only [Bool.false_eq_true,if_false];exact evOps_wp hcl l is tv1 M ρ _ w tv' M' e2 h (hT.put hp .undef) hM k
   ·cases h
  ·rename_i hg
   rw [gd_wanted hT.gdev hg]
   split at h
   ·cases h
   ·rename_i v M1 ho
    split at h
    ·rename_i tv1 hp
     simp only [if_true];refine .inl (evO_wp hM hcl hT.glob hT.ev ho fun ρ' v' w' g1 g2 g3=>?_);exact evOps_wp hcl l is tv1 M1 ρ' _ w' tv' M' e2 h ((hT.mono (hM.sub g1)).put hp g3) g2 fun ρ'' a' w'' k1 k2 k3=>k ρ'' a' w'' (g1.trans k1) k2 k3
    ·cases h
end
noncomputable section
def ancOf (acc:List Nat):List Edge→Nat
 | []=>0
 | e::l=>match Region.binds .any e with
  | true=>(2^e.on ||| (acc[e.on]?).getD 0) ||| ancOf acc l
  | false=>ancOf acc l
def ancs:List Oper→List Nat→List Nat
 | [],acc=>acc
 | o::l,acc=>ancs l (acc++[ancOf acc o.after.toList])
def lk (t:Nat):List (Nat×Nat)→Option Nat
 | []=>none
 | (d,j)::l=>match Nat.beq d t with
  | true=>some j
  | false=>lk t l
def wrs:List Oper→Nat→List (Nat×Nat)
 | [],_=>[]
 | o::l,i=>match o.dst with
  | some d=>(d,i)::wrs l (i+1)
  | none=>wrs l (i+1)
def uniq:List (Nat×Nat)→Bool
 | []=>true
 | (d,_)::l=>match lk d l with
  | none=>uniq l
  | some _=>false
structure St where
 o:Oper
 an:Nat
 cl:Nat
 rk:Nat
def free (W:List (Nat×Nat)):Operand→Bool
 | .tmp t=>(lk t W).isNone
 | _=>true
def mv (Z:List Oper) (j:Nat):Option Operand :=
 match Z[j]? with
 | some o=>match o.op,o.guard with
  | .move x,none=>some x
  | _,_=>none
 | none=>none
def fr (W:List (Nat×Nat)) (Z:List Oper):Operand→Bool
 | .tmp t=>match lk t W with
  | none=>true
  | some j=>match mv Z j with
   | some x=>free W x
   | none=>false
 | _=>true
def clsOf (W:List (Nat×Nat)) (Z:List Oper) (o:Oper):Nat :=
 match o.op,o.guard with
 | .alloc _,none=>3
 | .makeSlice _ l c,none=>match fr W Z l && fr W Z c with
  | true=>3
  | false=>2
 | op,_=>kd op
def sts (W:List (Nat×Nat)) (Z:List Oper):List Oper→List Nat→Nat→List St
 | o::os,a::qs,r=>⟨o,a,clsOf W Z o,r⟩::sts W Z os qs (match Nat.beq (clsOf W Z o) 2 with
  | true=>r+1
  | false=>r)
 | _,_,_=>[]
def tb (x i:Nat):Bool :=
 match Nat.land (Nat.shiftRight x i) 1 with
 | 0=>false
 | _=>true
theorem tb_eq (x i:Nat):tb x i=x.testBit i:=by
 have h:Nat.land (Nat.shiftRight x i) 1=(x >>> i) &&& 1:=rfl;unfold tb;rw [h,Nat.testBit,Nat.and_comm 1]
 split
 ·rename_i e;rw [e];rfl
 ·rename_i n e
  cases hn:(x >>> i) &&& 1 with
  | zero=>exact absurd hn e
  | succ k=>rfl
def chain:List St→Nat→Option Nat→Bool
 | [],_,_=>true
 | s::l,i,p=>match Nat.beq s.cl 2 with
  | true=>match p with
   | none=>chain l (i+1) (some i)
   | some j=>match tb s.an j with
    | true=>chain l (i+1) (some i)
    | false=>false
  | false=>chain l (i+1) p
def wl:List St→Nat→List (Nat×St)
 | [],_=>[]
 | s::l,u=>match Nat.beq s.cl 2 with
  | true=>(u,s)::wl l (u+1)
  | false=>wl l (u+1)
def excl (i a k:Nat):List (Nat×St)→Bool
 | []=>false
 | (u,s)::l=>match (tb a u && Nat.ble k s.rk) || (tb s.an i && Nat.blt s.rk k) with
  | true=>true
  | false=>excl i a k l
def okE:List Oper→Nat→Bool
 | [],_=>true
 | o::l,i=>match o.after.toList.all fun e=>!Region.binds .any e || Nat.blt e.on i with
  | true=>okE l (i+1)
  | false=>false
structure Lay where
 W:List (Nat×Nat)
 A:List Nat
 S:List St
def layOf (ops:List Oper):Option Lay :=
 let W:=wrs ops 0
 match uniq W with
 | true =>
  let A:=ancs ops []
  let S:=sts W ops ops A 0
  match chain S 0 none && Nat.beq S.length ops.length && okE ops 0 with
  | true=>some ⟨W,A,S⟩
  | false=>none
 | false=>none
theorem testBit_or {a b j:Nat}:(a ||| b).testBit j=(a.testBit j || b.testBit j):=Nat.testBit_or a b j
theorem ancOf_spec:∀ (l:List Edge) (acc:List Nat) (j:Nat), (ancOf acc l).testBit j=true→∃ e∈l, Region.binds .any e=true∧(j=e.on∨((acc[e.on]?).getD 0).testBit j=true)
  | [], acc, j, h => by simp [ancOf] at h
  | e::l, acc, j, h => by
    unfold ancOf at h
    split at h
    · rename_i hb
      rw [testBit_or, testBit_or, Bool.or_eq_true, Bool.or_eq_true] at h
      rcases h with (h | h) | h
      · exact ⟨e, by simp, hb, .inl (by rw [Nat.testBit_two_pow] at h; have h:e.on=j := by simpa using h
                                        exact h.symm)⟩
      · exact ⟨e, by simp, hb, .inr h⟩
      · obtain ⟨e', a, b⟩ := ancOf_spec l acc j h
        exact ⟨e', List.mem_cons_of_mem _ a, b⟩
    · obtain ⟨e', a, b⟩ := ancOf_spec l acc j h
      exact ⟨e', List.mem_cons_of_mem _ a, b⟩
theorem ancs_spec:∀ (l:List Oper) (acc:List Nat), ∃ r,ancs l acc=acc++r∧r.length=l.length∧∀ i o,l[i]?=some o→∀ j,(((acc++r)[acc.length+i]?).getD 0).testBit j=true→∃ e∈o.after.toList,Region.binds .any e=true∧(j=e.on∨(((acc++r)[e.on]?).getD 0).testBit j=true)
 | [],acc=>⟨[],by simp [ancs],rfl,by simp⟩
 | o::l,acc=>by
  obtain ⟨r,e1,e2,e3⟩:=ancs_spec l (acc++[ancOf acc o.after.toList]);refine ⟨ancOf acc o.after.toList::r,by rw [ancs,e1];simp,by simp [e2],fun i o' ho j hj=>?_⟩
  cases i with
  | zero =>
   simp only [List.getElem?_cons_zero,Option.some.injEq] at ho;subst ho;simp only [Nat.add_zero,List.getElem?_append_right (Nat.le_refl _),Nat.sub_self,List.getElem?_cons_zero,Option.getD_some] at hj;obtain ⟨e,a,b,c⟩:=ancOf_spec _ _ _ hj;refine ⟨e,a,b,c.imp id fun h=>?_⟩
   by_cases hlt:e.on<acc.length
   ·rw [List.getElem?_append_left hlt];exact h
   ·rw [List.getElem?_eq_none (Nat.le_of_not_lt hlt)] at h;simp at h
  | succ i =>
   have h1:=e3 i o' (by simpa using ho) j;simp only [List.append_assoc,List.cons_append,List.nil_append,List.length_append,List.length_cons,List.length_nil] at h1;rw [show acc.length+(0+1)+i=acc.length+(i+1) by omega] at h1;exact h1 hj
theorem sts_spec (W:List (Nat×Nat)) (Z:List Oper):∀ (os:List Oper) (qs:List Nat) (r i:Nat) (s:St),(sts W Z os qs r)[i]?=some s→os[i]?=some s.o∧qs[i]?=some s.an∧s.cl=clsOf W Z s.o
 | [],_,_,_,_,h=>by simp [sts] at h
 | _::_,[],_,_,_,h=>by simp [sts] at h
 | o::os,a::qs,r,i,s,h=>by
  unfold sts at h
  cases i with
  | zero=>simp only [List.getElem?_cons_zero,Option.some.injEq] at h;subst h;exact ⟨rfl,rfl,rfl⟩
  | succ i=>simp only [List.getElem?_cons_succ] at h ⊢;exact sts_spec W Z os qs _ i s h
theorem chain_spec (W:List (Nat×Nat)) (Z:List Oper):∀ (os:List Oper) (qs:List Nat) (r n:Nat) (p:Option Nat),chain (sts W Z os qs r) n p=true→∀ (i:Nat) (s:St),(sts W Z os qs r)[i]?=some s→s.cl=2 →
  r≤s.rk∧((s.rk=r∧∀ j,p=some j→s.an.testBit j=true)∨∃ (u:Nat) (t:St),(sts W Z os qs r)[u]?=some t∧t.cl=2∧t.rk+1=s.rk∧s.an.testBit (n+u)=true)
 | [],_,_,_,_,_,_,_,h,_=>by simp [sts] at h
 | _::_,[],_,_,_,_,_,_,h,_=>by simp [sts] at h
 | o::os,a::qs,r,n,p,hc,i,s,h,h2=>by
  unfold sts at h hc;unfold chain at hc;dsimp only at hc
  by_cases hb:Nat.beq (clsOf W Z o) 2=true
  ·rw [hb] at hc h;dsimp only at hc h;have hcl:clsOf W Z o=2:=Nat.eq_of_beq_eq_true hb;have hp:(∀ j,p=some j→a.testBit j=true)∧chain (sts W Z os qs (r+1)) (n+1) (some n)=true:=by
    cases p with
    | none=>exact ⟨by simp,hc⟩
    | some j =>
     dsimp only at hc
     split at hc
     ·rename_i ht;exact ⟨fun k e=>by cases e;rw [← tb_eq];exact ht,hc⟩
     ·cases hc
   cases i with
   | zero=>simp only [List.getElem?_cons_zero,Option.some.injEq] at h;subst h;exact ⟨Nat.le_refl _,.inl ⟨rfl,hp.1⟩⟩
   | succ i =>
    simp only [List.getElem?_cons_succ] at h;obtain ⟨k1,k2⟩:=chain_spec W Z os qs (r+1) (n+1) (some n) hp.2 i s h h2;refine ⟨by omega,.inr ?_⟩;have e0:(sts W Z (o::os) (a::qs) r)=⟨o,a,clsOf W Z o,r⟩::sts W Z os qs (r+1):=by show _::sts W Z os qs _=_;rw [hb]
    rw [e0]
    rcases k2 with ⟨k2,k3⟩ | ⟨u,t,k2,k3,k4,k5⟩
    ·exact ⟨0,_,rfl,hcl,k2.symm,by rw [Nat.add_zero];exact k3 n rfl⟩
    ·exact ⟨u+1,t,by simpa using k2,k3,k4,by rw [show n+(u+1)=n+1+u by omega];exact k5⟩
  ·have hb:=Bool.eq_false_iff.2 hb;rw [hb] at hc h;dsimp only at hc h;have e0:(sts W Z (o::os) (a::qs) r)=⟨o,a,clsOf W Z o,r⟩::sts W Z os qs r:=by show _::sts W Z os qs _=_;rw [hb]
   cases i with
   | zero =>
    simp only [List.getElem?_cons_zero,Option.some.injEq] at h;subst h;dsimp only at h2;rw [h2] at hb;cases hb
   | succ i =>
    simp only [List.getElem?_cons_succ] at h;obtain ⟨k1,k2⟩:=chain_spec W Z os qs r (n+1) p hc i s h h2;refine ⟨k1,k2.imp id ?_⟩;rintro ⟨u,t,k2,k3,k4,k5⟩;exact ⟨u+1,t,by rw [e0];simpa using k2,k3,k4,by rw [show n+(u+1)=n+1+u by omega];exact k5⟩
theorem wl_spec:∀ (l:List St) (n u:Nat) (s:St),(u,s)∈wl l n→∃ i,u=n+i∧l[i]?=some s∧s.cl=2
 | [],_,_,_,h=>by simp [wl] at h
 | t::l,n,u,s,h=>by
  unfold wl at h
  split at h
  ·rename_i hb
   rcases List.mem_cons.1 h with e | h
   ·cases e;exact ⟨0,rfl,rfl,Nat.eq_of_beq_eq_true hb⟩
   ·obtain ⟨i,a,b,c⟩:=wl_spec l (n+1) u s h;exact ⟨i+1,by omega,by simpa using b,c⟩
  ·obtain ⟨i,a,b,c⟩:=wl_spec l (n+1) u s h;exact ⟨i+1,by omega,by simpa using b,c⟩
theorem excl_mem (i a k:Nat):∀ (l:List (Nat×St)),excl i a k l=true→∃ u s,(u,s)∈l∧((a.testBit u=true∧k≤s.rk)∨(s.an.testBit i=true∧s.rk<k))
 | [],h=>by simp [excl] at h
 | (u,s)::l,h=>by
  unfold excl at h
  split at h
  ·rename_i hb
   simp only [Bool.and_eq_true,Bool.or_eq_true,tb_eq] at hb;refine ⟨u,s,by simp,?_⟩
   rcases hb with ⟨a1,a2⟩ | ⟨a1,a2⟩
   ·exact .inl ⟨a1,Nat.le_of_ble_eq_true a2⟩
   ·exact .inr ⟨a1,blt_lt a2⟩
  ·obtain ⟨u',t,e1,e2⟩:=excl_mem i a k l h;exact ⟨u',t,List.mem_cons_of_mem _ e1,e2⟩
theorem excl_spec (i a k:Nat) (S:List St) (h:excl i a k (wl S 0)=true):∃ (u:Nat) (s:St),S[u]?=some s∧s.cl=2∧((a.testBit u=true∧k≤s.rk)∨(s.an.testBit i=true∧s.rk<k)):=by
 obtain ⟨u,s,h1,h2⟩:=excl_mem i a k _ h;obtain ⟨j,e1,e2,e3⟩:=wl_spec _ _ _ _ h1;rw [Nat.zero_add] at e1;subst e1;exact ⟨u,s,e2,e3,h2⟩
theorem okE_spec:∀ (l:List Oper) (n:Nat),okE l n=true→∀ (i:Nat) (o:Oper),l[i]?=some o→∀ e∈o.after.toList,Region.binds .any e=true→e.on<n+i
 | [],_,_,_,_,h,_,_,_=>by simp at h
 | o::l,n,h,i,o',ho,e,he,hb=>by
  unfold okE at h
  split at h
  ·rename_i h1
   cases i with
   | zero =>
    simp only [List.getElem?_cons_zero,Option.some.injEq] at ho;subst ho;have:=List.all_eq_true.1 h1 e he;rw [hb] at this;exact blt_lt (by simpa using this)
   | succ i =>
    have:=okE_spec l (n+1) h i o' (by simpa using ho) e he hb;omega
  ·cases h
theorem lk_wrs:∀ (l:List Oper) (n t j:Nat),lk t (wrs l n)=some j→∃ i o,j=n+i∧l[i]?=some o∧o.dst=some t
 | [],n,t,j,h=>by simp [wrs,lk] at h
 | o::l,n,t,j,h=>by
  unfold wrs at h
  split at h
  ·rename_i d hd
   unfold lk at h
   split at h
   ·rename_i hb
    cases h
    have:=Nat.eq_of_beq_eq_true hb;subst this;exact ⟨0,o,rfl,rfl,hd⟩
   ·obtain ⟨i,o',a,b,c⟩:=lk_wrs l (n+1) t j h;exact ⟨i+1,o',by omega,by simpa using b,c⟩
  ·obtain ⟨i,o',a,b,c⟩:=lk_wrs l (n+1) t j h;exact ⟨i+1,o',by omega,by simpa using b,c⟩
theorem wrs_lk:∀ (l:List Oper) (n i:Nat) (o:Oper) (t:Nat),uniq (wrs l n)=true→l[i]?=some o→o.dst=some t→lk t (wrs l n)=some (n+i)
 | [],_,_,_,_,_,h,_=>by simp at h
 | o::l,n,i,o',t,hu,h,hd=>by
  unfold wrs at hu ⊢
  cases i with
  | zero =>
   simp only [List.getElem?_cons_zero,Option.some.injEq] at h;subst h;rw [hd];dsimp only;unfold lk;rw [show Nat.beq t t=true from Nat.beq_refl t];rfl
  | succ i =>
   simp only [List.getElem?_cons_succ] at h
   split at hu
   ·rename_i d hd'
    unfold uniq at hu
    split at hu
    ·rename_i hn
     have ih:=wrs_lk l (n+1) i o' t hu h hd;unfold lk
     split
     ·rename_i hb
      have:=Nat.eq_of_beq_eq_true hb;subst this;rw [ih] at hn;cases hn
     ·rw [ih];congr 1;omega
    ·cases hu
   ·rename_i hd'
    have ih:=wrs_lk l (n+1) i o' t hu h hd;rw [ih];congr 1;omega
end
noncomputable section
def veq1:Value→Value→Bool
 | .bool a,.bool b=>a==b
 | .int j a,.int k b=>decide (j=k) && decide (a=b)
 | .pointer none,.pointer none=>true
 | .pointer (some ⟨b,o,none⟩),.pointer (some ⟨c,p,none⟩)=>Nat.beq b c && Nat.beq o p
 | .slice none l c,.slice none m d=>Nat.beq l m && Nat.beq c d
 | .slice (some ⟨b,o,none⟩) l x,.slice (some ⟨c,p,none⟩) m y=>Nat.beq b c && Nat.beq o p && Nat.beq l m && Nat.beq x y
 | .map none,.map none=>true
 | .map (some a),.map (some b)=>Nat.beq a b
 | _,_=>false
def veqL:List Value→List Value→Bool
 | [],[]=>true
 | a::l,b::m=>veq1 a b && veqL l m
 | _,_=>false
def veq:Value→Value→Bool
 | .agg a,.agg b=>veqL a.toList b.toList
 | a,b=>veq1 a b
theorem veq1_eq {a b:Value} (h:veq1 a b=true):a=b:=by
 unfold veq1 at h
 split at h<;>(try simp only [Bool.and_eq_true,decide_eq_true_eq,beq_iff_eq,Nat.beq_eq] at h)
 ·rw [h]
 ·rw [h.1,h.2]
 ·rfl
 ·rw [h.1,h.2]
 ·rw [h.1,h.2]
 ·rw [h.1.1.1,h.1.1.2,h.1.2,h.2]
 ·rfl
 ·rw [h]
 ·cases h
theorem veqL_eq:∀ {l m:List Value},veqL l m=true→l=m
 | [],[],_=>rfl
 | a::l,b::m,h=>by
  unfold veqL at h;rw [Bool.and_eq_true] at h;rw [veq1_eq h.1,veqL_eq h.2]
 | [],_::_,h=>by cases h
 | _::_,[],h=>by cases h
theorem veq_eq {a b:Value} (h:veq a b=true):a=b:=by
 unfold veq at h
 split at h
 ·rw [Array.toList_inj.1 (veqL_eq h)]
 ·exact veq1_eq h
def evA (P:Program) (ev:Operand→Option Value) (id:Nat) (o:Oper):Option (Value×List Value) :=
 match o.op with
 | .alloc t=>match zeroOf P t with
  | some z=>some (ptrV id 0,z)
  | none=>none
 | .makeSlice t l c=>match P.underlying t,ev l,ev c with
  | some (.slice e),some (.int _ (.ofNat n)),some (.int _ (.ofNat k))=>match szOf P e,zeroOf P e,byOf P e with
   | some z,some zs,some y=>match Nat.beq zs.length z && Nat.blt 0 z && Nat.ble n k && Nat.ble (y*k) 281474976710656 && Nat.ble k 9223372036854775807 && Nat.blt k UNK with
    | true=>some (.slice (some ⟨id,0,none⟩) n k,zrep zs k)
    | false=>none
   | _,_,_=>none
  | _,_,_=>none
 | _=>none
theorem evA_run {P:Program} {ρ:Rho} {ev:Operand→Option Value} {ρe:Operand→Value} {w0 w:World} {M:Mem} (hM:MR w0 ρ M w) {o:Oper} {v:Value} {cs:List Value} {id:Nat} (he:∀ x u,ev x=some u→VR ρ u (ρe x)) (h:evA P ev id o=some (v,cs))
  (hid:ρ id=none) (hlt:id<M.nx) (hy:∀ y,M.bs.get id=some y→y=.cells cs.length (wr .e 0 cs)) :
  ∃ v' w' x,Gives P (execOp ρe o) w v' w'∧MR w0 (upd ρ id x) M w'∧VR (upd ρ id x) v v':=by
 obtain ⟨dst,op,type,pos,after,guard⟩:=o;have val:∀ {s:Sem Value} {op:Op},(execOp ρe ⟨dst,op,type,pos,after,guard⟩)=(do pure (.value (← s)))→∀ v' w',s.run P w=.ok v' w'→Gives P (execOp ρe ⟨dst,op,type,pos,after,guard⟩) w v' w':=fun e v' w' h=>.inl (by rw [e,Sem.run_bind,h];rfl);have fl:∀ (c:Array Value) (ty:TypeId),LR (SR ρ) cs c.toList→MR w0 (upd ρ id (w.heap.size,0,c.size)) M (w.alloc (.cells c ty)):=fun c ty hc=>by
  refine hM.fill hid hlt c ty fun y hg=>⟨_,_,hy y hg,by have:=hc.len;simp at this;omega,fun j v _ hv=>?_⟩
  rcases get_wr _ _ _ _ _ hv with ⟨i,e1,e2⟩ | ⟨_,e2⟩
  ·rw [Nat.zero_add] at e1;subst e1;obtain ⟨v',a,b⟩:=hc.get e2;exact ⟨v',by simpa using a,b⟩
  ·rw [T.get_e] at e2;cases e2
 unfold evA at h;dsimp only at h
 split at h
 ·rename_i t
  split at h
  ·rename_i z hz
   cases h
   obtain ⟨yzv,z1,z2,yz3,_⟩:=zeroOf_run (ρ:=ρ) hz;exact ⟨_,_,_,val (s:=Instr.alloc t true (.tuple #[])) rfl _ _ (by simp [Instr.alloc,yz3,newVar,newRow]),fl yzv.cells t (by rw [z1];exact z2),.one (.sc (SR.ptr (O:=0) (N:=yzv.cells.size) (if_pos rfl)))⟩
  ·cases h
 ·rename_i t l c
  split at h
  ·rename_i e kl n kc k ht hl hc
   split at h
   ·rename_i z zs y hz hzs hby
    split at h
    ·rename_i hq
     cases h
     simp only [Bool.and_eq_true] at hq;obtain ⟨⟨⟨⟨⟨q1,q2⟩,q3⟩,q4⟩,q5⟩,q6⟩:=hq;have q1:=Nat.eq_of_beq_eq_true q1;have q2:=blt_lt q2;have q3:=Nat.le_of_ble_eq_true q3;have q4:=Nat.le_of_ble_eq_true q4;have q5:=Nat.le_of_ble_eq_true q5;have q6:=blt_lt q6;obtain ⟨yzv,z1,z2,yz3,yz4,i,hi,hzi⟩:=zeroOf_run (ρ:=ρ) hzs;obtain ⟨i1,i2⟩:=szBy hi hz hby
     have e1:=(he _ _ hl).int_inv;have e2:=(he _ _ hc).int_inv;have hr:=run_make (P:=P) w t e i yzv ht hi hzi kl kc (n:Int) (k:Int) (Int.natCast_nonneg n) (by omega) (by rw [i2];have:=Int.ofNat_le.2 q4;rw [Int.natCast_mul] at this;exact this) (Int.ofNat_le.2 q5);simp only [Int.toNat_natCast] at hr;rw [i1] at hr;have hmk:(madeCells yzv.cells (k*z)).toList=zrep zs k:=by unfold madeCells;exact run_fillZero z1 q1 q2
     exact ⟨_,_,_,val (s:=Instr.makeSlice t (ρe l) (ρe c)) rfl _ _ (by rw [e1,e2];exact hr),fl _ e (by rw [hmk];exact zrep_LR yz4 k),.one (.sc (SR.sl (O:=0) (o:=0) (N:=(madeCells yzv.cells (k*z)).size) (if_pos rfl) q6))⟩
    ·cases h
   ·cases h
  ·cases h
 ·cases h
def bitOf (A:List Nat) (j i:Nat):Bool :=
 match A[j]? with
 | some x=>tb x i
 | none=>false
def opvD (W:List (Nat×Nat)) (A:List Nat) (an i:Nat) (rv:List Value) (n G:Nat) (tv0:T Value):Operand→Option Value
 | .tmp t=>match lk t W with
  | some j=>match tb an j && Nat.blt j n with
   | true=>rv[n-1-j]?
   | false=>match bitOf A j i with
    | true=>tv0.get t
    | false=>none
  | none=>tv0.get t
 | x=>opv G tv0 x
def opvA (W:List (Nat×Nat)) (Z:List Oper) (an G:Nat) (tv0:T Value):Operand→Option Value
 | .tmp t=>match lk t W with
  | none=>tv0.get t
  | some j=>match tb an j with
   | true=>match mv Z j with
    | some x=>match free W x with
     | true=>opv G tv0 x
     | false=>none
    | none=>none
   | false=>none
 | x=>opv G tv0 x
def hoist (P:Program) (ev0:Nat→Operand→Option Value) (base:Nat):List St→Nat→Mem→Option Mem
 | [],_,M=>some M
 | s::l,i,M=>match Nat.beq s.cl 3 with
  | true=>match evA P (ev0 s.an) (base+i) s.o with
   | some (_,cs)=>hoist P ev0 base l (i+1) (M.put (base+i) (.cells cs.length (wr .e 0 cs)))
   | none=>none
  | false=>hoist P ev0 base l (i+1) M
def stepV (P:Program) (cl:Cl) (ops:Array Oper) (ev ev0:Operand→Option Value) (id:Nat) (s:St) (M:Mem):Option (Value×Mem) :=
 match gd ops ev s.o with
 | none=>none
 | some false=>match Nat.beq s.cl 3 with
  | true=>none
  | false=>some (undef,M)
 | some true=>match s.cl with
  | 0=>match evP P ev s.o with
   | some v=>some (v,M)
   | none=>none
  | 1=>match evR P ev M s.o with
   | some v=>some (v,M)
   | none=>none
  | 2=>evOW P cl ev M s.o
  | 3=>match evA P ev0 id s.o with
   | some (v,_)=>some (v,M)
   | none=>none
  | _=>none
def pass (P:Program) (cl:Cl) (ops:Array Oper) (W:List (Nat×Nat)) (A:List Nat) (G:Nat) (tv0:T Value) (base:Nat):List St→Nat→List Value→List Mem→Option (List Value×List Mem)
 | [],_,rv,ns=>some (rv,ns)
 | s::l,i,rv,ns=>match ns with
  | []=>none
  | M::ns'=>match stepV P cl ops (opvD W A s.an i rv i G tv0) (opvA W ops.toList s.an G tv0) (base+i) s M with
   | none=>none
   | some (v,M')=>match Nat.beq s.cl 2 with
    | true=>pass P cl ops W A G tv0 base l (i+1) (v::rv) (M'::M::ns')
    | false=>pass P cl ops W A G tv0 base l (i+1) (v::rv) (M::ns')
def winK (P:Program) (ev:Operand→Option Value) (Q:List (Nat×St)) (s:St) (i:Nat) (v:Value):List Mem→Nat→Bool
 | [],_=>true
 | M::ns,k=>match Nat.beq k s.rk || excl i s.an k Q with
  | true=>winK P ev Q s i v ns (k+1)
  | false=>match evR P ev M s.o with
   | some u=>match veq u v with
    | true=>winK P ev Q s i v ns (k+1)
    | false=>false
   | none=>false
def win (P:Program) (ops:Array Oper) (W:List (Nat×Nat)) (A:List Nat) (G:Nat) (tv0:T Value) (Q:List (Nat×St)) (all:List Value) (n:Nat) (Ns:List Mem):List St→Nat→Bool
 | [],_=>true
 | s::l,i=>match Nat.beq s.cl 1 with
  | false=>win P ops W A G tv0 Q all n Ns l (i+1)
  | true=>match gd ops (opvD W A s.an i all n G tv0) s.o,all[n-1-i]? with
   | some false,_=>win P ops W A G tv0 Q all n Ns l (i+1)
   | some true,some v=>match winK P (opvD W A s.an i all n G tv0) Q s i v Ns 0 with
    | true=>win P ops W A G tv0 Q all n Ns l (i+1)
    | false=>false
   | _,_=>false
def win0 (P:Program) (ops:Array Oper) (W:List (Nat×Nat)) (A:List Nat) (G:Nat) (tv0:T Value) (S:List St) (all:List Value) (n:Nat) (Ns:List Mem) (Q:List (Nat×St)):Bool :=
 match Q with
 | []=>true
 | _=>win P ops W A G tv0 Q all n Ns.reverse S 0
def putAll (sz:Nat) (all:List Value) (n:Nat):List St→Nat→T Value→Option (T Value)
 | [],_,tv=>some tv
 | s::l,i,tv=>match all[n-1-i]? with
  | some v=>match putT sz tv s.o.dst v with
   | some tv'=>putAll sz all n l (i+1) tv'
   | none=>none
  | none=>none
def evDraw (P:Program) (cl:Cl) (G sz:Nat) (ops:Array Oper) (tv:T Value) (M:Mem):Option (T Value×Mem) :=
 match layOf ops.toList with
 | none=>none
 | some ⟨W,A,S⟩=>match hoist P (fun an=>opvA W ops.toList an G tv) M.nx S 0 ⟨M.bs,M.nx+S.length⟩ with
  | none=>none
  | some M0=>match pass P cl ops W A G tv M.nx S 0 [] [M0] with
   | some (all,Mm::ns)=>match win0 P ops W A G tv S all S.length (Mm::ns) (wl S 0),putAll sz all S.length S 0 tv with
    | true,some tv'=>some (tv',Mm)
    | _,_=>none
   | _=>none
end
noncomputable section
def nth {α:Type} (l:List α) (k:Nat):Option α:=match Nat.blt k l.length with
 | true=>l[l.length-1-k]?
 | false=>none
theorem nth_lt {α:Type} {l:List α} {k:Nat} (h:k<l.length):nth l k=l[l.length-1-k]?:=by
 unfold nth;rw [show Nat.blt k l.length=true by simp [Nat.blt];omega]
theorem nth_app {α:Type} {p l:List α} {k:Nat} (h:k<l.length):nth (p++l) k=nth l k:=by
 rw [nth_lt h,nth_lt (by simp;omega),List.length_append,List.getElem?_append_right (by omega)]
 congr 1;omega
theorem nth_cons {α:Type} (x:α) (l:List α):nth (x::l) l.length=some x:=by
 rw [nth_lt (by simp)];simp
section
variable {P:Program} {cl:Cl} {ops:Array Oper} {W:List (Nat×Nat)} {A:List Nat} {G:Nat} {tv0:T Value} {base:Nat}
theorem pass_spec (Z:List Oper):∀ (os:List Oper) (qs:List Nat) (r i:Nat) (rv:List Value) (ns:List Mem) (all:List Value) (Ns:List Mem),pass P cl ops W A G tv0 base (sts W Z os qs r) i rv ns=some (all,Ns)→ns.length=r+1→rv.length=i →
  (∃ p,all=p++rv∧p.length=(sts W Z os qs r).length)∧(∃ p,Ns=p++ns) ∧
  (∀ (u:Nat) (s:St),(sts W Z os qs r)[u]?=some s→s.rk<Ns.length∧∃ v M M' rv',stepV P cl ops (opvD W A s.an (i+u) rv' (i+u) G tv0) (opvA W ops.toList s.an G tv0) (base+(i+u)) s M=some (v,M')∧rv'.length=i+u∧(∃ q,all=q++(v::rv'))∧nth all (i+u)=some v∧nth Ns s.rk=some M∧(s.cl=2→nth Ns (s.rk+1)=some M')∧r≤s.rk) ∧
  (∀ k,r<k→k<Ns.length→∃ (u:Nat) (s:St),(sts W Z os qs r)[u]?=some s∧s.cl=2∧s.rk+1=k)
 | [],qs,r,i,rv,ns,all,Ns,h,hn,hr=>by
  simp only [sts,pass,Option.some.injEq,Prod.mk.injEq] at h;obtain ⟨rfl,rfl⟩:=h;exact ⟨⟨[],rfl,by simp [sts]⟩,⟨[],rfl⟩,by simp [sts],fun k h1 h2=>by omega⟩
 | _::_,[],r,i,rv,ns,all,Ns,h,hn,hr=>by
  simp only [sts,pass,Option.some.injEq,Prod.mk.injEq] at h;obtain ⟨rfl,rfl⟩:=h;exact ⟨⟨[],rfl,by simp [sts]⟩,⟨[],rfl⟩,by simp [sts],fun k h1 h2=>by omega⟩
 | o::os,a::qs,r,i,rv,ns,all,Ns,h,hn,hr=>by
  have e0:sts W Z (o::os) (a::qs) r=⟨o,a,clsOf W Z o,r⟩::sts W Z os qs (match Nat.beq (clsOf W Z o) 2 with
   | true=>r+1
   | false=>r):=rfl
  rw [e0] at h ⊢
  cases ns with
  | nil=>simp [pass] at h
  | cons M ns' =>
   simp only [pass] at h
   split at h
   ·cases h
   ·rename_i v M' hst
    have hnl:ns'.length=r:=by simpa using hn
    split at h
    ·rename_i hb
     try rw [hb] at h
     try rw [hb]
     try dsimp only at h
     try dsimp only
     obtain ⟨⟨p,p1,p2⟩,⟨q,q1⟩,hS,hK⟩:=pass_spec Z os qs (r+1) (i+1) (v::rv) (M'::M::ns') all Ns h (by simp [hnl]) (by simp [hr]);have hM:nth Ns r=some M:=by
      rw [q1,show q++M'::M::ns'=(q++[M'])++(M::ns') by simp,nth_app (by simp [hnl]),← hnl,nth_cons]
     have hM':nth Ns (r+1)=some M':=by
      rw [q1,nth_app (by simp [hnl]),show r+1=(M::ns').length by simp [hnl],nth_cons]
     refine ⟨⟨p++[v],by rw [p1];simp,by simp [p2]⟩,⟨q++[M'],by rw [q1];simp⟩,fun u s hu=>?_,fun k k1 k2=>?_⟩
     ·cases u with
      | zero =>
       simp only [List.getElem?_cons_zero,Option.some.injEq] at hu;subst hu;refine ⟨by rw [q1];simp;omega,v,M,M',rv,hst,by simp [hr],⟨p,p1⟩,?_,hM,fun _=>hM',Nat.le_refl _⟩;rw [p1,nth_app (by simp [hr]),Nat.add_zero,← hr,nth_cons]
      | succ u =>
       simp only [List.getElem?_cons_succ] at hu;obtain ⟨a1,v1,M1,M2,rv',a2,a3,a4,a5,a6,a7,a8⟩:=hS u s hu;rw [show i+1+u=i+(u+1) by omega] at a2 a3 a5;exact ⟨a1,v1,M1,M2,rv',a2,a3,a4,a5,a6,a7,by omega⟩
     ·by_cases hk:k=r+1
      ·exact ⟨0,_,rfl,Nat.eq_of_beq_eq_true hb,hk.symm⟩
      ·obtain ⟨u,s,b1,b2,b3⟩:=hK k (by omega) k2;exact ⟨u+1,s,by simpa using b1,b2,b3⟩
    ·rename_i hb
     try rw [hb] at h
     try rw [hb]
     try dsimp only at h
     try dsimp only
     obtain ⟨⟨p,p1,p2⟩,⟨q,q1⟩,hS,hK⟩:=pass_spec Z os qs r (i+1) (v::rv) (M::ns') all Ns h (by simp [hnl]) (by simp [hr]);have hM:nth Ns r=some M:=by
      rw [q1,nth_app (by simp [hnl]),← hnl,nth_cons]
     refine ⟨⟨p++[v],by rw [p1];simp,by simp [p2]⟩,⟨q,q1⟩,fun u s hu=>?_,fun k k1 k2=>?_⟩
     ·cases u with
      | zero =>
       simp only [List.getElem?_cons_zero,Option.some.injEq] at hu;subst hu;refine ⟨by rw [q1];simp;omega,v,M,M',rv,hst,by simp [hr],⟨p,p1⟩,?_,hM,fun e=>?_,Nat.le_refl _⟩
       ·rw [p1,nth_app (by simp [hr]),Nat.add_zero,← hr,nth_cons]
       ·dsimp only at e;rw [e] at hb;cases hb
      | succ u =>
       simp only [List.getElem?_cons_succ] at hu;obtain ⟨a1,v1,M1,M2,rv',a2,a3,a4,a5,a6,a7,a8⟩:=hS u s hu;rw [show i+1+u=i+(u+1) by omega] at a2 a3 a5;exact ⟨a1,v1,M1,M2,rv',a2,a3,a4,a5,a6,a7,a8⟩
     ·obtain ⟨u,s,b1,b2,b3⟩:=hK k k1 k2;exact ⟨u+1,s,by simpa using b1,b2,b3⟩
theorem opvD_le {an i0:Nat} {q rv:List Value} {i n:Nat} (hr:rv.length=i) (hn:(q++rv).length=n) {L:Array Bool} (hL:∀ j,an.testBit j=true→j<i) {x:Operand} {u:Value} (h:opvD W A an i0 rv i G tv0 x=some u):opvD W A an i0 (q++rv) n G tv0 x=some u:=by
 unfold opvD at h ⊢
 split at h
 ·rename_i t
  split at h
  ·rename_i j hj
   split at h
   ·rename_i hb
    rw [Bool.and_eq_true] at hb;have hlt:=blt_lt hb.2;simp only [List.length_append] at hn;rw [hb.1,show Nat.blt j n=true by simp [Nat.blt];omega];simp only [Bool.and_self];rw [List.getElem?_append_right (by omega)];rw [← h];congr 1;omega
   ·rename_i hb
    have hb2:(tb an j && Nat.blt j n)=false:=by
     cases hx:tb an j with
     | false=>rfl
     | true =>
      have:=hL j (by rw [← tb_eq];exact hx);rw [hx,show Nat.blt j i=true by simp [Nat.blt];omega] at hb
      cases hb
    rw [hb2];exact h
  ·exact h
 ·exact h
theorem hoist_spec {ev0:Nat→Operand→Option Value}:∀ (S:List St) (i:Nat) (M M':Mem),hoist P ev0 base S i M=some M'→M'.nx=M.nx ∧
  (∀ j y,M'.bs.get j=some y→(∃ (u:Nat) (s:St) (v:Value) (cs:List Value),S[u]?=some s∧s.cl=3∧j=base+(i+u)∧evA P (ev0 s.an) j s.o=some (v,cs)∧y=.cells cs.length (wr .e 0 cs))∨(M.bs.get j=some y∧∀ (u:Nat) (s:St),S[u]?=some s→s.cl=3→j≠base+(i+u)))
 | [],i,M,M',h=>by cases h;exact ⟨rfl,fun j y h=>.inr ⟨h,by simp⟩⟩
 | s::l,i,M,M',h=>by
  unfold hoist at h
  split at h
  ·rename_i hb
   split at h
   ·rename_i v cs he
    obtain ⟨a1,a2⟩:=hoist_spec l (i+1) _ M' h;refine ⟨a1,fun j y hy=>?_⟩
    rcases a2 j y hy with ⟨u,t,v',cs',b1,b2,b3,b4,b5⟩ | ⟨hy,hno⟩
    ·exact .inl ⟨u+1,t,v',cs',by simpa using b1,b2,by omega,b4,b5⟩
    ·rcases Mem.get_put hy with ⟨e1,e2⟩ | ⟨e1,e2⟩
     ·exact .inl ⟨0,s,v,cs,rfl,Nat.eq_of_beq_eq_true hb,e1,by rw [e1];exact he,e2⟩
     ·refine .inr ⟨e2,fun u t hu hc=>?_⟩
      cases u with
      | zero=>exact e1
      | succ u=>have:=hno u t (by simpa using hu) hc;omega
   ·cases h
  ·rename_i hb
   obtain ⟨a1,a2⟩:=hoist_spec l (i+1) _ M' h;refine ⟨a1,fun j y hy=>?_⟩
   rcases a2 j y hy with ⟨u,t,v',cs',b1,b2,b3,b4,b5⟩ | ⟨hy,hno⟩
   ·exact .inl ⟨u+1,t,v',cs',by simpa using b1,b2,by omega,b4,b5⟩
   ·refine .inr ⟨hy,fun u t hu hc=>?_⟩
    cases u with
    | zero=>simp only [List.getElem?_cons_zero,Option.some.injEq] at hu;subst hu;rw [hc] at hb;cases hb
    | succ u=>have:=hno u t (by simpa using hu) hc;omega
theorem hoist_MR {ev0:Nat→Operand→Option Value} {w0 w:World} {ρ:Rho}:∀ (S:List St) (i:Nat) (M M':Mem),hoist P ev0 base S i M=some M'→(∀ u,ρ (base+u)=none)→MR w0 ρ M w→MR w0 ρ M' w
 | [],i,M,M',h,_,hM=>by cases h;exact hM
 | s::l,i,M,M',h,hn,hM=>by
  unfold hoist at h
  split at h
  ·split at h
   ·exact hoist_MR l (i+1) _ M' h hn (hM.hole (hn i) _)
   ·cases h
  ·exact hoist_MR l (i+1) _ M' h hn hM
theorem winK_spec {ev:Operand→Option Value} {Q:List (Nat×St)} {s:St} {i:Nat} {v:Value}:∀ (ns:List Mem) (k:Nat),winK P ev Q s i v ns k=true→∀ (j:Nat) (M:Mem),ns[j]?=some M→k+j=s.rk∨excl i s.an (k+j) Q=true∨evR P ev M s.o=some v
 | [],_,_,_,_,h=>by simp at h
 | N::ns,k,h,j,M,hj=>by
  unfold winK at h
  split at h
  ·rename_i hx
   cases j with
   | zero =>
    rw [Bool.or_eq_true] at hx;exact hx.imp (fun e=>Nat.eq_of_beq_eq_true e) .inl
   | succ j=>have:=winK_spec ns (k+1) h j M (by simpa using hj);rwa [show k+1+j=k+(j+1) by omega] at this
  ·split at h
   ·rename_i u hu
    split at h
    ·rename_i hv
     cases j with
     | zero=>simp only [List.getElem?_cons_zero,Option.some.injEq] at hj;subst hj;exact .inr (.inr (by rw [hu,veq_eq hv]))
     | succ j=>have:=winK_spec ns (k+1) h j M (by simpa using hj);rwa [show k+1+j=k+(j+1) by omega] at this
    ·cases h
   ·cases h
theorem win_spec {Q:List (Nat×St)} {all:List Value} {n:Nat} {Ns:List Mem}:∀ (l:List St) (i:Nat),win P ops W A G tv0 Q all n Ns l i=true→∀ (u:Nat) (s:St),l[u]?=some s→s.cl=1→gd ops (opvD W A s.an (i+u) all n G tv0) s.o=some false∨∃ v,all[n-1-(i+u)]?=some v∧∀ (k:Nat) (M:Mem),Ns[k]?=some M→k=s.rk∨excl (i+u) s.an k Q=true∨evR P (opvD W A s.an (i+u) all n G tv0) M s.o=some v
 | [],_,_,_,_,h,_=>by simp at h
 | s::l,i,h,u,t,hu,ht=>by
  unfold win at h
  split at h
  ·rename_i hb
   cases u with
   | zero=>simp only [List.getElem?_cons_zero,Option.some.injEq] at hu;subst hu;rw [ht] at hb;cases hb
   | succ u=>have:=win_spec l (i+1) h u t (by simpa using hu) ht;rwa [show i+1+u=i+(u+1) by omega] at this
  ·split at h
   ·rename_i hg
    cases u with
    | zero=>simp only [List.getElem?_cons_zero,Option.some.injEq] at hu;subst hu;exact .inl hg
    | succ u=>have:=win_spec l (i+1) h u t (by simpa using hu) ht;rwa [show i+1+u=i+(u+1) by omega] at this
   ·rename_i v hg hv
    split at h
    ·rename_i hw
     cases u with
     | zero =>
      simp only [List.getElem?_cons_zero,Option.some.injEq] at hu;subst hu;exact .inr ⟨v,hv,fun k M hk=>by have:=winK_spec _ _ hw k M hk;rwa [Nat.zero_add] at this⟩
     | succ u=>have:=win_spec l (i+1) h u t (by simpa using hu) ht;rwa [show i+1+u=i+(u+1) by omega] at this
    ·cases h
   ·cases h
theorem wl_nil:∀ (l:List St) (n:Nat),wl l n=[]→∀ (i:Nat) (s:St),l[i]?=some s→s.cl≠2
 | [],_,_,_,_,h=>by simp at h
 | t::l,n,h,i,s,hi=>by
  unfold wl at h
  split at h
  ·cases h
  ·rename_i hb
   cases i with
   | zero=>simp only [List.getElem?_cons_zero,Option.some.injEq] at hi;subst hi;intro e;rw [e] at hb;cases hb
   | succ i=>exact wl_nil l (n+1) h i s (by simpa using hi)
theorem putAll_spec {sz:Nat} {all:List Value} {n:Nat}:∀ (l:List St) (i:Nat) (tv tv':T Value),putAll sz all n l i tv=some tv' →
  (∀ (u:Nat) (s:St) (d:Nat),l[u]?=some s→s.o.dst=some d→d<sz) ∧
  ∀ t v,tv'.get t=some v→(∃ (u:Nat) (s:St),l[u]?=some s∧s.o.dst=some t∧all[n-1-(i+u)]?=some v)∨(tv.get t=some v∧∀ (u:Nat) (s:St),l[u]?=some s→s.o.dst≠some t)
 | [],i,tv,tv',h=>by cases h;exact ⟨by simp,fun t v e=>.inr ⟨e,by simp⟩⟩
 | s::l,i,tv,tv',h=>by
  unfold putAll at h
  split at h
  ·rename_i x hx
   split at h
   ·rename_i tv1 hp
    obtain ⟨a1,a2⟩:=putAll_spec l (i+1) tv1 tv' h;refine ⟨fun u t d hu hd=>?_,fun t v e=>?_⟩
    ·cases u with
     | zero =>
      simp only [List.getElem?_cons_zero,Option.some.injEq] at hu;subst hu;unfold putT at hp;rw [hd] at hp;dsimp only at hp
      split at hp
      ·rename_i hb;exact blt_lt hb
      ·cases hp
     | succ u=>exact a1 u t d (by simpa using hu) hd
    ·rcases a2 t v e with ⟨u,s',b1,b2,b3⟩ | ⟨b1,b2⟩
     ·exact .inl ⟨u+1,s',by simpa using b1,b2,by rw [show i+(u+1)=i+1+u by omega];exact b3⟩
     ·unfold putT at hp
      split at hp
      ·rename_i hd
       cases hp
       refine .inr ⟨b1,fun u s' hu=>?_⟩
       cases u with
       | zero=>simp only [List.getElem?_cons_zero,Option.some.injEq] at hu;subst hu;rw [hd];simp
       | succ u=>exact b2 u s' (by simpa using hu)
      ·rename_i d hd
       split at hp
       ·cases hp
        rcases T.get_set _ _ _ _ _ _ b1 with ⟨rfl,rfl⟩ | ⟨hne,b1⟩
        ·exact .inl ⟨0,s,rfl,hd,hx⟩
        ·refine .inr ⟨b1,fun u s' hu=>?_⟩
         cases u with
         | zero=>simp only [List.getElem?_cons_zero,Option.some.injEq] at hu;subst hu;rw [hd];simpa using Ne.symm hne
         | succ u=>exact b2 u s' (by simpa using hu)
       ·cases hp
   ·cases h
  ·cases h
end
end
noncomputable section
structure Inv (w0:World) (ρ0:Rho) (M00:Mem) (W:List (Nat×Nat)) (S:List St) (G sz base:Nat) (tv0:T Value) (all:List Value) (Ns:List Mem) (N0:Mem) (ρ:Rho) (k:Nat) (N:Mem) (L:Array Bool) (a:Act) (w:World):Prop where
 size:L.size=S.length
 C:∀ (i:Nat) (s:St),L[i]?=some true→S[i]?=some s→∀ j,s.an.testBit j=true→L[j]?=some true
 at_:nth Ns k=some N
 mr:MR w0 ρ N w
 gr:Grow ρ0 M00 ρ N
 nx:base+S.length≤N.nx
 K:∀ (i:Nat) (s:St),S[i]?=some s→s.cl=2→(L[i]?=some true↔s.rk<k)
 ho:∀ (i:Nat) (s:St),S[i]?=some s→s.cl=3→L[i]?≠some true→ρ (base+i)=none∧∀ y,N.bs.get (base+i)=some y→N0.bs.get (base+i)=some y
 defers:a.defers=[]
 tsz:a.tmps.size=sz
 glob:∃ Ng,ρ G=some (G,0,Ng)
 t1:∀ (i:Nat) (s:St) (d:Nat),S[i]?=some s→L[i]?=some true→s.o.dst=some d→∃ v v',nth all i=some v∧a.tmps[d]?=some v'∧VR ρ v v'
 t2:∀ (t:Nat) (v:Value),tv0.get t=some v→(∀ j,lk t W=some j→L[j]?≠some true)→∃ v',a.tmps[t]?=some v'∧VR ρ v v'
section
variable {w0 w w':World} {ρ0 ρ ρ':Rho} {M00:Mem} {W:List (Nat×Nat)} {S:List St} {G sz base:Nat} {tv0:T Value} {all:List Value} {Ns:List Mem} {N0 N N':Mem} {k k':Nat} {L:Array Bool} {a:Act} {ops:Array Oper}
theorem L_set {L:Array Bool} {i j:Nat} (hi:i<L.size):((L.setIfInBounds i true)[j]?=some true)↔(j=i∨L[j]?=some true):=by
 by_cases h:j=i
 ·subst h;simp [Array.getElem?_setIfInBounds_self_of_lt hi]
 ·rw [Array.getElem?_setIfInBounds_ne (Ne.symm h)];simp [h]
theorem Inv.next (h:Inv w0 ρ0 M00 W S G sz base tv0 all Ns N0 ρ k N L a w) (hW:W=wrs ops.toList 0) (hu:uniq W=true) (hops:∀ (i:Nat) (s:St),S[i]?=some s→ops[i]?=some s.o) {i:Nat} {s:St} (hs:S[i]?=some s) (hb:∀ j,s.an.testBit j=true→L[j]?=some true)
  (hnl:L[i]?≠some true) (hd:∀ d,s.o.dst=some d→d<sz) {v v':Value} (hv:nth all i=some v) (h1:nth Ns k'=some N') (h2:MR w0 ρ' N' w') (h3:Grow ρ0 M00 ρ' N') (h4:base+S.length≤N'.nx) (hsub:Sub ρ ρ') (h5:VR ρ' v v')
  (h6:∀ (j:Nat) (t:St),S[j]?=some t→t.cl=2→((j=i∨L[j]?=some true)↔t.rk<k'))
  (h7:∀ (j:Nat) (t:St),S[j]?=some t→t.cl=3→j≠i→L[j]?≠some true→ρ' (base+j)=none∧∀ y,N'.bs.get (base+j)=some y→N.bs.get (base+j)=some y) :
  Inv w0 ρ0 M00 W S G sz base tv0 all Ns N0 ρ' k' N' (L.setIfInBounds i true) (a.put s.o.dst v') w':=by
 have hi:i<L.size:=by rw [h.size];exact (List.getElem?_eq_some_iff.1 hs).1
 refine ⟨by simp [h.size],fun j t hj ht b hbit=>?_,h1,h2,h3,h4,fun j t ht hc=>?_,fun j t ht hc hj=>?_,?_,?_,?_,fun j t d ht hj hdt=>?_,fun t u hu' hl=>?_⟩
 ·rw [L_set hi] at hj ⊢
  rcases hj with rfl | hj
  ·rw [hs] at ht;cases ht;exact .inr (hb b hbit)
  ·exact .inr (h.C j t hj ht b hbit)
 ·rw [L_set hi];exact h6 j t ht hc
 ·have hj1:j≠i:=fun e=>hj ((L_set hi).2 (.inl e));have hj2:L[j]?≠some true:=fun e=>hj ((L_set hi).2 (.inr e));obtain ⟨a1,a2⟩:=h7 j t ht hc hj1 hj2;exact ⟨a1,fun y hy=>(h.ho j t ht hc hj2).2 y (a2 y hy)⟩
 ·unfold Act.put;split<;>exact h.defers
 ·unfold Act.put;split<;>simp [h.tsz]
 ·obtain ⟨Ng,e⟩:=h.glob;exact ⟨Ng,hsub _ _ e⟩
 ·rw [L_set hi] at hj
  rcases hj with rfl | hj
  ·rw [hs] at ht;cases ht;refine ⟨v,v',hv,?_,h5⟩;rw [hdt];simp only [Act.put];rw [Array.getElem?_setIfInBounds_self_of_lt (by rw [h.tsz];exact hd d hdt)]
  ·obtain ⟨u,u',a1,a2,a3⟩:=h.t1 j t d ht hj hdt;refine ⟨u,u',a1,?_,a3.mono hsub⟩
   cases hdi:s.o.dst with
   | none=>exact a2
   | some d' =>
    simp only [Act.put];rw [Array.getElem?_setIfInBounds_ne ?_]; · exact a2
    rintro rfl;have e1:=wrs_lk ops.toList 0 i s.o d' (by rw [← hW];exact hu) (by simpa using hops i s hs) hdi;have e2:=wrs_lk ops.toList 0 j t.o d' (by rw [← hW];exact hu) (by simpa using hops j t ht) hdt;rw [e1] at e2;have:i=j:=by simpa using e2
    subst this;exact hnl hj
 ·obtain ⟨u',a1,a2⟩:=h.t2 t u hu' fun j hj e=>hl j hj ((L_set hi).2 (.inr e));refine ⟨u',?_,a2.mono hsub⟩
  cases hdi:s.o.dst with
  | none=>exact a1
  | some d' =>
   simp only [Act.put];rw [Array.getElem?_setIfInBounds_ne ?_]; · exact a1
   rintro rfl;have e1:=wrs_lk ops.toList 0 i s.o d' (by rw [← hW];exact hu) (by simpa using hops i s hs) hdi;rw [← hW,Nat.zero_add] at e1;exact hl i e1 ((L_set hi).2 (.inl rfl))
theorem Inv.ev (h:Inv w0 ρ0 M00 W S G sz base tv0 all Ns N0 ρ k N L a w) (hW:W=wrs ops.toList 0) (hops:∀ (i:Nat) (o:Oper),ops[i]?=some o→∃ s,S[i]?=some s∧s.o=o) (hal:all.length=S.length) {A:List Nat} (hA:∀ (i:Nat) (s:St),S[i]?=some s→A[i]?=some s.an) (hAl:A.length=S.length) {an i0:Nat} (hi0:L[i0]?≠some true) (hb:∀ j,an.testBit j=true→L[j]?=some true) :
  (∀ d u,opvD W A an i0 all S.length G tv0 (.tmp d)=some u→∃ v',a.tmps[d]?=some v'∧VR ρ u v')∧∀ x u,opvD W A an i0 all S.length G tv0 x=some u→VR ρ u (a.eval x):=by
 have key:∀ d u,opvD W A an i0 all S.length G tv0 (.tmp d)=some u→∃ v',a.tmps[d]?=some v'∧VR ρ u v':=fun d u e=>by
  unfold opvD at e;dsimp only at e
  split at e
  ·rename_i j hj
   split at e
   ·rename_i hbit
    rw [Bool.and_eq_true,tb_eq] at hbit;have hlt:=blt_lt hbit.2;rw [hW] at hj;obtain ⟨i,o,e1,e2,e3⟩:=lk_wrs _ _ _ _ hj;rw [Nat.zero_add] at e1;subst e1;obtain ⟨s,e4,e5⟩:=hops j o (by simpa using e2);obtain ⟨v,v',a1,a2,a3⟩:=h.t1 j s d e4 (hb j hbit.1) (by rw [e5];exact e3);rw [nth_lt (by omega),hal,e] at a1
    cases a1
    exact ⟨v',a2,a3⟩
   ·split at e
    ·rename_i hbo
     refine h.t2 d u e fun j' hj' hL'=>?_;rw [hj] at hj'
     cases hj'
     unfold bitOf at hbo
     split at hbo
     ·rename_i x hx
      rw [tb_eq] at hbo;have hlt:j<S.length:=by rw [← hAl];exact (List.getElem?_eq_some_iff.1 hx).1
      have hx2:=hA j _ (List.getElem?_eq_getElem hlt);rw [hx] at hx2
      cases hx2
      exact hi0 (h.C j _ hL' (List.getElem?_eq_getElem hlt) i0 hbo)
     ·cases hbo
    ·cases e
  ·rename_i hl
   exact h.t2 d u e fun j hj=>by rw [hl] at hj;cases hj
 refine ⟨key,fun x u e=>?_⟩
 cases x with
 | tmp t =>
  obtain ⟨v',e1,e2⟩:=key t u e;show VR ρ u (a.tmps.getD t undef);rw [show a.tmps.getD t undef=v' by rw [Array.getD_eq_getD_getElem?,e1];rfl];exact e2
 | const v =>
  unfold opvD opv at e;dsimp only at e
  split at e
  ·rename_i hp;cases e;exact .one (V1.refl1 hp)
  ·cases e
 | global g =>
  unfold opvD opv at e;dsimp only at e
  split at e
  ·rename_i hg
   cases e
   have hg:=Nat.eq_of_beq_eq_true hg;subst hg;obtain ⟨Ng,e1⟩:=h.glob;exact .one (.sc (SR.ptr (O:=0) (o:=0) e1))
  ·cases e
 | func f=>cases e;exact .one (.fn .nil)
end
end
end Go.Vm
