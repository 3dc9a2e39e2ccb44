/-
  Parts of the proof: StWa.
-/
import Derived.Test.YtkeommmigopnkaaGreatDoorKF17
import Derived.Test.YtkeommmigopnkaaGreatDoorKF19
set_option linter.unusedVariables false
set_option linter.unusedSimpArgs false
set_option maxHeartbeats 32000000
set_option maxRecDepth 100000
namespace Go.Proofs.YtkeommmigopnkaaGreatDoor
open Go.RowKit Go.Sx Go.Dl Go.Lk Go.Rq Go.Au Go.Hi Go.St
instance encSec:Enc Sec 3 where
 enc s:=[.int .i64 s.task,.int .u64 s.n,.bool s.op]
 len _:=rfl
 one s:=by intro u hu;simp at hu;rcases hu with rfl | rfl | rfl<;>rfl
 dft:=sec0
 pos:=by decide
instance (l:List Sec) (k:Nat):El l k (scg l k):=⟨rfl⟩
instance (x:Sec):EncAt (E:=encSec) x 0 (.int .i64 x.task):=⟨rfl⟩
instance (x:Sec):EncAt (E:=encSec) x 1 (.int .u64 x.n):=⟨rfl⟩
instance (x:Sec):EncAt (E:=encSec) x 2 (.bool x.op):=⟨rfl⟩
instance (x:Sec) (n:Int):EncSet (E:=encSec) x 1 (.int .u64 n) { x with n:=n }:=⟨rfl,by decide⟩
instance (x:Sec) (z:Bool):EncSet (E:=encSec) x 2 (.bool z) { x with op:=z }:=⟨rfl,by decide⟩
theorem rOpen (g:Nat) (jv rv tv:Value) (sa:Option Addr) (sc:Nat) (S:List Sec) (hS:S.length≤1000) (t:Nat) (w0 w:World) (F:HP) (hs:Sat w0 w (pts g 0 [jv,rv,tv,.slice sa S.length sc]*(recsP (.slice sa S.length sc) S*F))) :
  Calls Tryz.prog 25 #[.pointer (some ⟨g,0,none⟩),.int .i64 t] w (RetV w0 (.int .i64 (fidx (opI S t))) (pts g 0 [jv,rv,tv,.slice sa S.length sc]*(recsP (.slice sa S.length sc) S*F))):=by
 go_enter Tryz.func25,Tryz.ntmps25
 go_wp2_with fail;refine wp_gen (w0:=w0) ?_;intro wx hsx;clear hs
 go_loopw [5] (fun i wr=>∃ k:Nat,k≤S.length∧i=.int .i64 k∧Hid (∀ j,j<k→opnS S t j=false)∧Sat w0 wr (pts g 0 [jv,rv,tv,.slice sa S.length sc]*(recsP (.slice sa S.length sc) S*(F*any)))) (fun i _=>S.length-(intOf i).toNat)
 case atStart=>exact ⟨0,Nat.zero_le _,rfl,fun j hj=>absurd hj (Nat.not_lt_zero j),own_left⟩
 case round =>
  obtain ⟨k,hk,rfl,hno,hsr⟩:=hrel;clear hsx
  by_cases hlt:k<S.length
  ·have d1:decide (k<S.length)=true:=decide_eq_true hlt;have i1:(k:Int)<(S.length:Int):=by omega
   haveI:Lt k S.length:=⟨hlt⟩;obtain ⟨sg',so,rfl⟩:=recs_at (hsr.pull (Q:=recsP (.slice sa S.length sc) S)) (by omega);have ho:Hid (opnS S t k=((scg S k).op && decide ((scg S k).task=t))):=rfl;have hnx:=hid (fun (hf:opnS S t k=false)=>(show ∀ j,j<k+1→opnS S t j=false from fun j hj=>by
    by_cases q:j=k
    ·rw [q];exact hf
    ·exact hno.out j (by omega)))
   have hyes:=hid (fun (ht:opnS S t k=true)=>(show opI S t=some k from fst_some hlt ht hno.out));clear hno
   by_cases h1:(scg S k).task=t
   ·have e1:((scg S k).task==(t:Int))=true:=by simp [h1]
    rw [decide_eq_true h1,Bool.and_true] at ho
    by_cases h2:(scg S k).op=true
    ·have hq:=hyes.out (ho.out.trans h2);have Hq:=hid hq;clear hq hyes hnx h1;go_wp2_with fail;go_ret;exact ⟨by rw [Hq.out];rfl,own_left⟩
    ·have h2:(scg S k).op=false:=by simpa using h2
     have hq:=hid (hnx.out (ho.out.trans h2));clear hyes hnx h1;go_wp2_with fail;go_roundw
     case rel=>exact ⟨k+1,by omega,by go_num,hq,own_left⟩
     case measure=>simp [intOf];omega
   ·have e1:((scg S k).task==(t:Int))=false:=by simp [h1]
    rw [decide_eq_false h1,Bool.and_false] at ho;have hq:=hid (hnx.out ho.out);clear hyes hnx h1;go_wp2_with fail;go_roundw
    case rel=>exact ⟨k+1,by omega,by go_num,hq,own_left⟩
    case measure=>simp [intOf];omega
  ·have d1:decide (k<S.length)=false:=decide_eq_false hlt;obtain rfl:k=S.length:=by omega
   have hq:=hid (show opI S t=none from fst_none.2 hno.out);clear hno;go_wp2_with fail;go_ret;exact ⟨by rw [hq.out];rfl,own_left⟩
theorem rJob (g:Nat) (rv tv sv:Value) (ja:Option Addr) (jc:Nat) (J:List Jb) (hJ:J.length≤1000) (t:Nat) (w0 w:World) (F:HP) (hs:Sat w0 w (pts g 0 [.slice ja J.length jc,rv,tv,sv]*(recsP (.slice ja J.length jc) J*F))) :
  Calls Tryz.prog 41 #[.pointer (some ⟨g,0,none⟩),.int .i64 t] w (RetV w0 (.int .i64 (fidx (jbI J t))) (pts g 0 [.slice ja J.length jc,rv,tv,sv]*(recsP (.slice ja J.length jc) J*F))):=by
 go_enter Tryz.func41,Tryz.ntmps41
 go_wp2_with fail;refine wp_gen (w0:=w0) ?_;intro wx hsx;clear hs
 go_loopw [5] (fun i wr=>∃ k:Nat,k≤J.length∧i=.int .i64 k∧Hid (∀ j,j<k→opnJ J t j=false)∧Sat w0 wr (pts g 0 [.slice ja J.length jc,rv,tv,sv]*(recsP (.slice ja J.length jc) J*(F*any)))) (fun i _=>J.length-(intOf i).toNat)
 case atStart=>exact ⟨0,Nat.zero_le _,rfl,fun j hj=>absurd hj (Nat.not_lt_zero j),own_left⟩
 case round =>
  obtain ⟨k,hk,rfl,hno,hsr⟩:=hrel;clear hsx
  by_cases hlt:k<J.length
  ·have d1:decide (k<J.length)=true:=decide_eq_true hlt;have i1:(k:Int)<(J.length:Int):=by omega
   haveI:Lt k J.length:=⟨hlt⟩;obtain ⟨sg',so,rfl⟩:=recs_at (hsr.pull (Q:=recsP (.slice ja J.length jc) J)) (by omega);have ho:Hid (opnJ J t k=(!(jg J k).ended && decide ((jg J k).task=t))):=rfl;have hnx:=hid (fun (hf:opnJ J t k=false)=>(show ∀ j,j<k+1→opnJ J t j=false from fun j hj=>by
    by_cases q:j=k
    ·rw [q];exact hf
    ·exact hno.out j (by omega)))
   have hyes:=hid (fun (ht:opnJ J t k=true)=>(show jbI J t=some k from fst_some hlt ht hno.out));clear hno
   by_cases h1:(jg J k).task=t
   ·have e1:((jg J k).task==(t:Int))=true:=by simp [h1]
    rw [decide_eq_true h1,Bool.and_true] at ho
    by_cases h2:(jg J k).ended=false
    ·have hq:=hyes.out (ho.out.trans (by rw [h2];rfl));have Hq:=hid hq;clear hq hyes hnx h1;go_wp2_with fail;go_ret;exact ⟨by rw [Hq.out];rfl,own_left⟩
    ·have h2:(jg J k).ended=true:=by simpa using h2
     have hq:=hid (hnx.out (ho.out.trans (by rw [h2];rfl)));clear hyes hnx h1;go_wp2_with fail;go_roundw
     case rel=>exact ⟨k+1,by omega,by go_num,hq,own_left⟩
     case measure=>simp [intOf];omega
   ·have e1:((jg J k).task==(t:Int))=false:=by simp [h1]
    rw [decide_eq_false h1,Bool.and_false] at ho;have hq:=hid (hnx.out ho.out);clear hyes hnx h1;go_wp2_with fail;go_roundw
    case rel=>exact ⟨k+1,by omega,by go_num,hq,own_left⟩
    case measure=>simp [intOf];omega
  ·have d1:decide (k<J.length)=false:=decide_eq_false hlt;obtain rfl:k=J.length:=by omega
   have hq:=hid (show jbI J t=none from fst_none.2 hno.out);clear hno;go_wp2_with fail;go_ret;exact ⟨by rw [hq.out];rfl,own_left⟩
theorem rOwns (b:Nat) (A:Au) (t:Nat) (ht:t<64) (w0 w:World) (F:HP) (hs:Sat w0 w (rfP b A*F)) (hA:AOk A) :
  Calls Tryz.prog 42 #[.pointer (some ⟨b,0,none⟩),.int .i64 t] w (RetV w0 (.int .i64 (cntO A t)) (rfP b A*F)):=by
 obtain ⟨g,off,cap,c1,c2,hs⟩:=rfP_out hA hs;have Hl:=hid hA.lo;have Ho:=hid hA.own;clear hA
 go_enter Tryz.func42,Tryz.ntmps42
 go_wp2_with fail;refine wp_gen (w0:=w0) ?_;intro wx hsx;clear hs
 go_loopw [5,6] (fun nv i wr=>∃ (k:Nat) (m:Nat),k≤32∧i=.int .i64 k∧nv=.int .i64 m∧m≤k∧Hid (m=(A.ow.take k).count ((t:Int)+1))∧Sat w0 wr (pts b 0 [.slice (some ⟨g,off,none⟩) 64 cap]*(recsP (.slice (some ⟨g,off,none⟩) 64 cap) (A.ts.map toTr)*(pts b 1 (dn A.ow)*(pts b 33 (A.pn.map Value.bool)*(pts b 49 [.int .i64 (A.isr-1),.int .i64 (rn A.run)]*(pts b 51 (evCells A.last)*(pts b 57 (evCells (duEv A.due))*(pts b 63 [.int .i64 A.seen,.bool false]*(F*any)))))))))) (fun _ i _=>32-(intOf i).toNat)
 case atStart=>exact ⟨0,0,Nat.zero_le _,rfl,rfl,Nat.le_refl _,rfl,own_left⟩
 case round =>
  obtain ⟨k,m,hk,rfl,rfl,hmk,hm,hsr⟩:=hrel;clear hsx
  by_cases hlt:k<32
  ·have d1:decide (k<32)=true:=decide_eq_true hlt;have i1:(k:Int)<32:=by omega
   have hl:k<A.ow.length:=by rw [Hl.out];exact hlt
   haveI:Lt k A.ow.length:=⟨hl⟩;have hnx:Hid ((A.ow.take (k+1)).count ((t:Int)+1)=m+(if owg A.ow k=(t:Int)+1 then 1 else 0)):=by
    unfold Hid;rw [List.take_add_one,List.getElem?_eq_getElem hl,List.count_append,← hm.out];unfold owg;rw [List.getD_eq_getElem?_getD,List.getElem?_eq_getElem hl];simp [List.count_cons]
   clear hm
   by_cases h1:owg A.ow k=(t:Int)+1
   ·have e1:((owg A.ow k-1)==(t:Int))=true:=by rw [beq_iff_eq];omega
    rw [if_pos h1] at hnx;clear h1;go_wp2_with fail;go_roundw
    case rel=>exact ⟨k+1,m+1,by omega,by go_num,by go_num,by omega,hnx.out.symm,own_left⟩
    case measure=>simp [intOf];omega
   ·have e1:((owg A.ow k-1)==(t:Int))=false:=by rw [beq_eq_false_iff_ne];omega
    rw [if_neg h1] at hnx;clear h1;go_wp2_with fail;go_roundw
    case rel=>exact ⟨k+1,m,by omega,by go_num,rfl,by omega,hnx.out.symm,own_left⟩
    case measure=>simp [intOf];omega
  ·have d1:decide (k<32)=false:=decide_eq_false hlt;obtain rfl:k=32:=by omega
   have hq:Hid (m=cntO A t):=by unfold Hid cntO;rw [hm.out,List.take_of_length_le (by rw [Hl.out];exact Nat.le_refl _)]
   clear hm;go_wp2_with fail;go_ret;exact ⟨by rw [hq.out];rfl,rfP_of (v:=.slice (some ⟨g,off,none⟩) 64 cap) own_left⟩
theorem rLoose (b:Nat) (A:Au) (w0 w:World) (F:HP) (hs:Sat w0 w (rfP b A*F)) (hA:AOk A) :
  Calls Tryz.prog 43 #[.pointer (some ⟨b,0,none⟩)] w (RetV w0 (.bool (looA A)) (rfP b A*F)):=by
 obtain ⟨g,off,cap,c1,c2,hs⟩:=rfP_out hA hs;have Hl:=hid hA.lo;have Ht:=hid hA.lt;have Ho:=hid hA.own;have Hst:=hid (tk_rng hA);clear hA
 go_enter Tryz.func43,Tryz.ntmps43
 go_wp2_with fail;refine wp_gen (w0:=w0) ?_;intro wx hsx;clear hs
 go_loopw [3] (fun i wr=>∃ k:Nat,k≤32∧i=.int .i64 k∧Hid (∀ j,j<k→looM A j=false)∧Sat w0 wr (pts b 0 [.slice (some ⟨g,off,none⟩) 64 cap]*(recsP (.slice (some ⟨g,off,none⟩) 64 cap) (A.ts.map toTr)*(pts b 1 (dn A.ow)*(pts b 33 (A.pn.map Value.bool)*(pts b 49 [.int .i64 (A.isr-1),.int .i64 (rn A.run)]*(pts b 51 (evCells A.last)*(pts b 57 (evCells (duEv A.due))*(pts b 63 [.int .i64 A.seen,.bool false]*(F*any)))))))))) (fun i _=>32-(intOf i).toNat)
 case atStart=>exact ⟨0,Nat.zero_le _,rfl,fun j hj=>absurd hj (Nat.not_lt_zero j),own_left⟩
 case round =>
  obtain ⟨k,hk,rfl,hno,hsr⟩:=hrel;clear hsx
  by_cases hlt:k<32
  ·have d1:decide (k<32)=true:=decide_eq_true hlt;have i1:(k:Int)<32:=by omega
   have hl:k<A.ow.length:=by rw [Hl.out];exact hlt
   haveI:Lt k A.ow.length:=⟨hl⟩;have how:0≤owg A.ow k∧owg A.ow k≤64:=Ho.out _ (by unfold owg;rw [List.getD_eq_getElem?_getD,List.getElem?_eq_getElem hl];exact List.getElem_mem hl);have ho:Hid (looM A k=(decide (0<owg A.ow k) && looT (tkAt A (owg A.ow k-1).toNat))):=rfl;have hnx:=hid (fun (hf:looM A k=false)=>(show ∀ j,j<k+1→looM A j=false from fun j hj=>by
    by_cases q:j=k
    ·rw [q];exact hf
    ·exact hno.out j (by omega)))
   have hyes:=hid (fun (ht:looM A k=true)=>(show looA A=true from List.any_eq_true.2 ⟨k,List.mem_range.2 hlt,ht⟩));clear hno
   by_cases h1:0<owg A.ow k
   ·rw [decide_eq_true h1,Bool.true_and] at ho;obtain ⟨x,hx⟩:∃ x:Nat,owg A.ow k=x+1:=⟨(owg A.ow k-1).toNat,by omega⟩;have hx64:x<64:=by omega
    rw [show (owg A.ow k-1).toNat=x by omega] at ho;haveI:Lt x A.ts.length:=⟨by rw [Ht.out];exact hx64⟩;have ix:(x:Int)<64:=by omega
    have dx:decide (x<64)=true:=decide_eq_true hx64;have hw:owg A.ow k-1=(x:Int):=by omega
    have hst:=Hst.out x;unfold looT at ho
    change Hid (looM A k=(decide ((tkg A.ts x).st=0) || decide ((tkg A.ts x).st=2) && !mtx (tkg A.ts x).on)) at ho
    change 0≤(tkg A.ts x).st∧(tkg A.ts x).st≤3 at hst
    have Hst2:=hid hst;clear hst how h1;rw [show mtx (tkg A.ts x).on=(decide (32≤(tkg A.ts x).on) && decide ((tkg A.ts x).on<64)) from rfl] at ho
    by_cases h0:(tkg A.ts x).st=0
    ·have e0:((tkg A.ts x).st==0)=true:=by simp [h0]
     have hq:=hid (hyes.out (by rw [ho.out,decide_eq_true h0];rfl));clear h0 ho hnx hyes;go_wp2_with (fail);go_ret;exact ⟨by rw [hq.out];rfl,rfP_of (v:=.slice (some ⟨g,off,none⟩) 64 cap) own_left⟩
    ·have e0:((tkg A.ts x).st==0)=false:=by simp [h0]
     rw [decide_eq_false h0,Bool.false_or] at ho;clear h0
     by_cases h2:(tkg A.ts x).st=2
     ·have e2:((tkg A.ts x).st==2)=true:=by simp [h2]
      rw [decide_eq_true h2,Bool.true_and] at ho;clear h2
      by_cases h3:(tkg A.ts x).on<32
      ·have i3:(((tkg A.ts x).on:Int)<32)=True:=eq_true (by omega);have hq:=hid (hyes.out (by rw [ho.out,decide_eq_false (show ¬ 32≤(tkg A.ts x).on by omega)];rfl));clear h3 ho hnx hyes;go_wp2_with fail;go_ret;exact ⟨by rw [hq.out];rfl,rfP_of (v:=.slice (some ⟨g,off,none⟩) 64 cap) own_left⟩
      ·have i3:(((tkg A.ts x).on:Int)<32)=False:=eq_false (by omega);have H3:=hid h3;rw [decide_eq_true (show 32≤(tkg A.ts x).on by omega),Bool.true_and] at ho;clear h3
       by_cases h4:(tkg A.ts x).on<64
       ·have e4:decide (63<(tkg A.ts x).on)=false:=decide_eq_false (by omega);have i5:((63:Int)<((tkg A.ts x).on:Int))=False:=eq_false (by omega);have hq:=hid (hnx.out (by rw [ho.out,decide_eq_true h4];rfl));clear h4 ho hnx hyes;go_wp2_with fail;go_roundw
        case rel=>exact ⟨k+1,by omega,by go_num,hq,own_left⟩
        case measure=>simp [intOf];omega
       ·have e4:decide (63<(tkg A.ts x).on)=true:=decide_eq_true (by omega);have i5:((63:Int)<((tkg A.ts x).on:Int))=True:=eq_true (by omega);have hq:=hid (hyes.out (by rw [ho.out,decide_eq_false h4];rfl));clear h4 ho hnx hyes;go_wp2_with fail;go_ret;exact ⟨by rw [hq.out];rfl,rfP_of (v:=.slice (some ⟨g,off,none⟩) 64 cap) own_left⟩
     ·have e2:((tkg A.ts x).st==2)=false:=by simp [h2]
      rw [decide_eq_false h2,Bool.false_and] at ho;have hq:=hid (hnx.out ho.out);clear h2 ho hnx hyes;go_wp2_with fail;go_roundw
      case rel=>exact ⟨k+1,by omega,by go_num,hq,own_left⟩
      case measure=>simp [intOf];omega
   ·have e1:owg A.ow k=0:=by omega
    rw [decide_eq_false h1,Bool.false_and] at ho;have hq:=hid (hnx.out ho.out);have hw:owg A.ow k-1=-1:=by omega
    clear e1 h1 how ho hnx hyes;go_wp2_with fail;go_roundw
    case rel=>exact ⟨k+1,by omega,by go_num,hq,own_left⟩
    case measure=>simp [intOf];omega
  ·have d1:decide (k<32)=false:=decide_eq_false hlt;obtain rfl:k=32:=by omega
   have hq:Hid (looA A=false):=by
    unfold Hid
    cases e:looA A with
    | false=>rfl
    | true =>
     obtain ⟨m,m1,m2⟩:=List.any_eq_true.1 e;rw [hno.out m (List.mem_range.1 m1)] at m2
     cases m2
   clear hno;go_wp2_with fail;go_ret;exact ⟨by rw [hq.out];rfl,rfP_of (v:=.slice (some ⟨g,off,none⟩) 64 cap) own_left⟩
end Go.Proofs.YtkeommmigopnkaaGreatDoor
