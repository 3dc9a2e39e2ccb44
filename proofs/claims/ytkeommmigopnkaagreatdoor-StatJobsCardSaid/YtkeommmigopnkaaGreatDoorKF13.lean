/-
  Parts of the proof: StE.
-/
import Derived.Test.YtkeommmigopnkaaGreatDoorKF12
set_option linter.unusedVariables false
set_option linter.unusedSimpArgs false
set_option maxHeartbeats 32000000
set_option maxRecDepth 100000
namespace Go.Proofs.YtkeommmigopnkaaGreatDoor
open Go.RowKit Go.Sx Go.Au Go.Hi Go.St
def RetL (w0:World) (P:HP) (p:Prop) (e:Ending) (w':World):Prop:=∃ z:Bool,(z=true↔p)∧e=.returned (.bool z)∧Sat w0 w' P
theorem stLoose (g:Nat) (n:Nat) (B:Bk) (hB:BOk n B) (hn:n≤64) (w0 w:World) (F:HP) (hs:Sat w0 w (bkP g B*F)) :
  Calls Tryz.prog 95 #[.pointer (some ⟨g,0,none⟩)] w (RetL w0 (bkP g B*F) B.Loose):=by
 have Hs:=hid hs;obtain ⟨mb,ta,tc,ja,jc,hs⟩:=bk_out hs;obtain ⟨es,c,hI,hs1⟩:=(hs.pull (Q:=mpP mb B.ow)).mp_out;have hbm:=hs1.map_at;have hg:=(hs.pull (Q:=pts g 0 [.slice ta B.ts.length tc,.map (some mb),.int .i64 B.run,.bool B.ent,.slice ja B.jb.length jc])).above (by simp);have hc0:w.cell? ⟨g,0,none⟩=some (.slice ta B.ts.length tc):=hs.c0;have H:=hid (And.intro hB (And.intro hI hbm));have hts:B.ts.length≤64:=by rw [hB.len];exact hn
 have hrg:=run_range_map (P:=Tryz.prog) w 74 25 3 mb es c Tryz.underlying74 hbm;have Hg:=hid (And.intro hg.2 (And.intro hc0 (show ∀ (t:Nat),t<B.ts.length→∃ tg tq9,ta=some ⟨tg,tq9,none⟩∧tg<w.heap.size∧w.rangeAt tg (tq9+t*13) (skCells (sg B.ts t)) from fun t ht=>by
  obtain ⟨tg,tq9,rfl⟩:=recs_at (hs.pull (Q:=recsP (.slice ta B.ts.length tc) B.ts)) (by omega);have hr:=recs_row (hs.pull (Q:=recsP (.slice (some ⟨tg,tq9,none⟩) B.ts.length tc) B.ts)) ht (rfl:_=sg B.ts t);have h0:=hr 0 _ rfl;exact ⟨tg,tq9,rfl,World.block_lt_of_cell? w _ h0,hr⟩)))
 clear hB hI hbm hg hc0 hs1
 go_enter Tryz.func95,Tryz.ntmps95
 go_wp2_with fail;clear hrg
 go_loopw [] (fun wr=>∃ (seen:Array Nat) (m:Nat),Sat (itW w mb c seen m) wr any∧∀ x∈es.toList,seen.contains x.born=true→∀ v,x.val=.int .i64 v→(sg B.ts v.toNat).loose=false) (fun wr=>(leftOf es (wr.iterSeen w.heap.size)).size)
 case atStart =>
  refine ⟨#[],0,?_,fun x _ h=>by simp at h⟩;rw [show itW w mb c #[] 0=w.alloc (.mapIter (some mb) c #[] c) from rfl];haveI:=Sat.start (w.alloc (.mapIter (some mb) c #[] c));exact own_left
 case round =>
  obtain ⟨seen,m,hsr,hno⟩:=hrel;have Hno:=hid hno;clear hno;obtain ⟨hB,hI,hbm⟩:=H.out;have law:=it_run_next (P:=Tryz.prog) wr 0 w.heap.size mb c c seen es c (it_at hsr) ((it_old hsr (Array.getElem?_eq_some_iff.1 hbm).1).trans hbm) hI.1.1 (Nat.le_refl _)
  rcases law with ⟨h0,hrun⟩ | ⟨e,he,k,hrun⟩
  ·have hnx:∀ ty,(Instr.next (.pointer (some ⟨w.heap.size,0,none⟩)) false ty).run Tryz.prog wr=_:=fun _=>hrun;have hz:Hid (false=true↔B.Loose):=by
    refine ⟨fun h=>(by cases h),?_⟩;rintro ⟨q,v,h1,h2⟩;obtain ⟨x,hx,_,hv⟩:=hI.2.2 q v h1;have:=Hno.out x hx (all_seen es seen h0 x hx) v hv;rw [show B.t v.toNat=sg B.ts v.toNat from rfl,this] at h2
    cases h2
   clear hB hI hbm h0 hrun;go_wp2_with fail;go_ret;exact ⟨false,hz.out,rfl,it_past Hs.out hsr⟩
  ·obtain ⟨q,v,hkey,hv,hM⟩:=hI.2.1 e (mem_left he).1;have hvr:=hB.ow q v hM;have hsr2:=it_next hsr e.born k;obtain ⟨w2,hw2⟩:∃ w2,w2={ wr.drewN k with heap:=wr.heap.setIfInBounds w.heap.size (.mapIter (some mb) c (seen.push e.born) c) }:=⟨_,rfl⟩;rw [← hw2] at hrun hsr2;rw [hv] at hrun;have hnx:∀ ty,(Instr.next (.pointer (some ⟨w.heap.size,0,none⟩)) false ty).run Tryz.prog wr=_:=fun _=>hrun;have hen:=it_run_entry (P:=Tryz.prog) w2 w.heap.size mb c (seen.push e.born |>.pop) es c e (by rw [it_at hsr2];simp) ((it_old hsr2 (Array.getElem?_eq_some_iff.1 hbm).1).trans hbm) (mem_left he).1 hI.1.2.1;rw [hv] at hen;obtain ⟨t,ht⟩:∃ t:Nat,v=t:=⟨v.toNat,by omega⟩;subst ht;have hlt:t<B.ts.length:=by rw [hB.len];omega
   obtain ⟨hg,hc0,hta⟩:=Hg.out;obtain ⟨tg,tq9,e1,e2,hr0⟩:=hta t hlt;obtain ⟨x,hx⟩:∃ x,x=sg B.ts t:=⟨_,rfl⟩;rw [← hx] at hr0;have hrow:w2.rangeAt tg (tq9+t*13) (skCells x):=it_row hsr2 e2 hr0;have hc1:w2.cell? ⟨g,0,none⟩=some (.slice (some ⟨tg,tq9,none⟩) B.ts.length tc):=by rw [← e1];exact it_cell hsr2 hc0
   have hc2:w2.cell? ⟨g,1,none⟩=w2.cell? ⟨g,1,none⟩:=rfl;have d1:decide (t<B.ts.length)=true:=decide_eq_true hlt;have i1:(t:Int)<(B.ts.length:Int):=by omega
   have hq:=hid hM;have HN:=hid (And.intro hI.1.2.1 (mem_left he).1);have HM:=hid he;have Hx:=hid hx;clear hc2 hB hI hbm hvr hw2 hrun hM he hg hc0 hta e2 hr0 hx hkey hn;obtain ⟨lev,idle,rdy,on,gone,owns,secs,opn,len,lng,ran,tak,dl⟩:=x
   cases idle
   case true =>
    have hl:Hid ((B.t ((t:Int).toNat)).loose=true):=by unfold Hid;rw [show B.t ((t:Int).toNat)=sg B.ts t from rfl,← Hx.out];rfl
    iterate 62 (first | (refine wpList_load_mid rfl _ _ rfl _ _ rfl _ _ hrow Tryz.underlying100 rfl (by kernel_rfl) ?_) | (refine wpList_store_sat (w0:=itW w mb c (seen.push e.born) k) (cells:=skCells ⟨lev,true,rdy,on,gone,owns,secs,opn,len,lng,ran,tak,dl⟩) (old:=skZ) rfl rfl rfl rfl own rfl (by kernel_rfl) rfl ?_;intro wS hsS) | go_values | go_skip | go_guarded | go_step | go_upon | go_back | go_simp)
    clear hen hnx hrow hc1;go_wp2_with fail;go_ret;exact ⟨true,⟨fun _=>⟨q,(t:Int),hq.out,hl.out⟩,fun _=>rfl⟩,rfl,it_past Hs.out hsS⟩
   case false =>
    cases rdy
    case true =>
     have hl:Hid ((sg B.ts ((t:Int).toNat)).loose=false):=by unfold Hid;rw [Int.toNat_natCast,← Hx.out];rfl
     iterate 62 (first | (refine wpList_load_mid rfl _ _ rfl _ _ rfl _ _ hrow Tryz.underlying100 rfl (by kernel_rfl) ?_) | (refine wpList_store_sat (w0:=itW w mb c (seen.push e.born) k) (cells:=skCells ⟨lev,false,true,on,gone,owns,secs,opn,len,lng,ran,tak,dl⟩) (old:=skZ) rfl rfl rfl rfl own rfl (by kernel_rfl) rfl ?_;intro wS hsS) | go_values | go_skip | go_guarded | go_step | go_upon | go_back | go_simp)
     clear hen hnx hrow hc1;go_wp2_with fail;go_roundw
     case rel =>
      refine ⟨seen.push e.born,k,own_left,fun y hy hc2 u hu=>?_⟩;rw [contains_push] at hc2
      rcases Bool.or_eq_true _ _ ▸ hc2 with h1 | h1
      ·exact Hno.out y hy h1 u hu
      ·have:y=e:=born_inj HN.out.1 hy HN.out.2 (beq_iff_eq.1 h1);subst this;rw [hv] at hu
       cases hu
       exact hl.out
     case measure =>
      rw [it_seen hsr,it_seen hsS];exact left_shrinks es seen e HM.out
    case false =>
     cases gone
     case true =>
      have hl:Hid ((sg B.ts ((t:Int).toNat)).loose=false):=by unfold Hid;rw [Int.toNat_natCast,← Hx.out];rfl
      iterate 62 (first | (refine wpList_load_mid rfl _ _ rfl _ _ rfl _ _ hrow Tryz.underlying100 rfl (by kernel_rfl) ?_) | (refine wpList_store_sat (w0:=itW w mb c (seen.push e.born) k) (cells:=skCells ⟨lev,false,false,on,true,owns,secs,opn,len,lng,ran,tak,dl⟩) (old:=skZ) rfl rfl rfl rfl own rfl (by kernel_rfl) rfl ?_;intro wS hsS) | go_values | go_skip | go_guarded | go_step | go_upon | go_back | go_simp)
      clear hen hnx hrow hc1;go_wp2_with fail;go_roundw
      case rel =>
       refine ⟨seen.push e.born,k,own_left,fun y hy hc2 u hu=>?_⟩;rw [contains_push] at hc2
       rcases Bool.or_eq_true _ _ ▸ hc2 with h1 | h1
       ·exact Hno.out y hy h1 u hu
       ·have:y=e:=born_inj HN.out.1 hy HN.out.2 (beq_iff_eq.1 h1);subst this;rw [hv] at hu
        cases hu
        exact hl.out
      case measure =>
       rw [it_seen hsr,it_seen hsS];exact left_shrinks es seen e HM.out
     case false =>
      cases hm:mtx on
      case false =>
       have hl:Hid ((B.t ((t:Int).toNat)).loose=true):=by unfold Hid;rw [show B.t ((t:Int).toNat)=sg B.ts t from rfl,← Hx.out];unfold Sk.loose;rw [hm];rfl
       have Hm:=hid hm;clear hm
       iterate 62 (first | (refine wpList_load_mid rfl _ _ rfl _ _ rfl _ _ hrow Tryz.underlying100 rfl (by kernel_rfl) ?_) | (refine wpList_store_sat (w0:=itW w mb c (seen.push e.born) k) (cells:=skCells ⟨lev,false,false,on,false,owns,secs,opn,len,lng,ran,tak,dl⟩) (old:=skZ) rfl rfl rfl rfl own rfl (by kernel_rfl) rfl ?_;intro wS hsS) | go_values | go_skip | go_guarded | go_step | go_upon | go_back | go_simp)
       clear hen hnx hrow hc1;go_wp2_with fail;refine (stMutex on _).mono ?_;rintro en w3 ⟨rfl,rfl⟩;rw [Hm.out];go_wp2_with fail;go_ret;exact ⟨true,⟨fun _=>⟨q,(t:Int),hq.out,hl.out⟩,fun _=>rfl⟩,rfl,it_past Hs.out hsS⟩
      case true =>
       have hl:Hid ((sg B.ts ((t:Int).toNat)).loose=false):=by unfold Hid;rw [Int.toNat_natCast,← Hx.out];unfold Sk.loose;rw [hm];rfl
       have Hm:=hid hm;clear hm
       iterate 62 (first | (refine wpList_load_mid rfl _ _ rfl _ _ rfl _ _ hrow Tryz.underlying100 rfl (by kernel_rfl) ?_) | (refine wpList_store_sat (w0:=itW w mb c (seen.push e.born) k) (cells:=skCells ⟨lev,false,false,on,false,owns,secs,opn,len,lng,ran,tak,dl⟩) (old:=skZ) rfl rfl rfl rfl own rfl (by kernel_rfl) rfl ?_;intro wS hsS) | go_values | go_skip | go_guarded | go_step | go_upon | go_back | go_simp)
       clear hen hnx hrow hc1;go_wp2_with fail;refine (stMutex on _).mono ?_;rintro en w3 ⟨rfl,rfl⟩;rw [Hm.out];go_wp2_with fail;go_roundw
       case rel =>
        refine ⟨seen.push e.born,k,own_left,fun y hy hc2 u hu=>?_⟩;rw [contains_push] at hc2
        rcases Bool.or_eq_true _ _ ▸ hc2 with h1 | h1
        ·exact Hno.out y hy h1 u hu
        ·have:y=e:=born_inj HN.out.1 hy HN.out.2 (beq_iff_eq.1 h1);subst this;rw [hv] at hu
         cases hu
         exact hl.out
       case measure =>
        rw [it_seen hsr,it_seen hsS];exact left_shrinks es seen e HM.out
end Go.Proofs.YtkeommmigopnkaaGreatDoor
