/-
  Parts of the proof: StH StI StJ StK.
-/
import Derived.Test.YtkeommmigopnkaaGreatDoorKF9
import Derived.Test.YtkeommmigopnkaaGreatDoorKF14
set_option linter.unusedVariables false
set_option linter.unusedSimpArgs false
set_option maxHeartbeats 32000000
set_option maxRecDepth 100000
namespace Go.Proofs.YtkeommmigopnkaaGreatDoor
open Go.RowKit Go.Sx Go.Au Go.Hi Go.St
theorem lowF_len (ts:List Sk) (lv m:Int) (k:Nat) (J:List Jb):(lowF ts lv m k J).length=J.length:=(fold_jobs (low1_jobs ts lv m) (List.range k) J).1
theorem ran_eq {B:Bk} {t:Nat} {m:Int} {inn:Bool} {x1:Sk} (hl:t<B.ts.length) (hm:m≠0) (h255:t≠255) (hx:x1=(B.t t).go m inn):B.ran t m inn=(B.setS t x1).wJ (lowF (B.ts.set t x1) x1.lev m B.ts.length B.jb):=by
 unfold Bk.ran;rw [if_neg (by omega)];dsimp only;rw [Int.toNat_natCast,← hx,t_set hl,if_pos rfl];show (B.setS t x1).wJ (lowF (B.ts.set t x1) x1.lev m (B.ts.set t x1).length B.jb)=_;rw [List.length_set]
theorem stRan255 (g:Nat) (n:Nat) (B:Bk) (hB:BOk n B) (hn:n≤64) (hjl:B.jb.length≤1000000) (m:Int) (inn:Bool) (w0 w:World) (F:HP) (hs:Sat w0 w (bkP g B*F)) :
  Calls Tryz.prog 58 #[.pointer (some ⟨g,0,none⟩),.int .i64 255,.int .u64 m,.bool inn] w (RetV w0 (.tuple #[]) (bkP g (B.ran 255 m inn)*F)):=by
 have hE:Hid (B.ran 255 m inn=B):=by unfold Hid Bk.ran;rw [if_pos (.inl rfl)]
 go_enter Tryz.func58,Tryz.ntmps58
 go_wp2_with fail
 go_end0
 rw [hE.out];exact ⟨rfl,own_left⟩
theorem stRan0 (g:Nat) (n:Nat) (B:Bk) (hB:BOk n B) (hn:n≤64) (hjl:B.jb.length≤1000000) (who:Int) (hw:who≠255) (inn:Bool) (w0 w:World) (F:HP) (hs:Sat w0 w (bkP g B*F)) :
  Calls Tryz.prog 58 #[.pointer (some ⟨g,0,none⟩),.int .i64 who,.int .u64 0,.bool inn] w (RetV w0 (.tuple #[]) (bkP g (B.ran who 0 inn)*F)):=by
 have hE:Hid (B.ran who 0 inn=B):=by unfold Hid Bk.ran;rw [if_pos (.inr rfl)]
 have e1:(who==255)=false:=by simp [hw]
 go_enter Tryz.func58,Tryz.ntmps58
 go_wp2_with fail
 go_end0
 rw [hE.out];exact ⟨rfl,own_left⟩
theorem stRanF (g:Nat) (n:Nat) (B:Bk) (hB:BOk n B) (hn:n≤64) (hjl:B.jb.length≤1000000) (t:Nat) (ht:t<n) (m:Int) (hm:m≠0) (w0 w:World) (F:HP) (hs:Sat w0 w (bkP g B*F)) :
  Calls Tryz.prog 58 #[.pointer (some ⟨g,0,none⟩),.int .i64 t,.int .u64 m,.bool false] w (RetV w0 (.tuple #[]) (bkP g (B.ran t m false)*F)):=by
 obtain ⟨mb,ta,tc,ja,jc,hs⟩:=bk_out hs;have H:=hid hB;have hl:t<B.ts.length:=by rw [hB.len];exact ht
 have hts:B.ts.length≤64:=by rw [hB.len];exact hn
 have d1:decide (t<B.ts.length)=true:=decide_eq_true hl;have i1:(t:Int)<(B.ts.length:Int):=by omega
 have e1:((t:Int)==255)=false:=by simp;omega
 have e2:(m==0)=false:=by simp [hm]
 haveI:Lt t B.ts.length:=⟨hl⟩;obtain ⟨tg,tq9,rfl⟩:=recs_at (hs.pull (Q:=recsP (.slice ta B.ts.length tc) B.ts)) (by omega);obtain ⟨x,hx⟩:∃ x,x=sg B.ts t:=⟨_,rfl⟩;have hx':B.t t=x:=hx.symm;haveI e0:El B.ts t x:=⟨hx.symm⟩;have HR:=hid (fun (x1:Sk) (h:x1=x.go m false)=>ran_eq (x1:=x1) (inn:=false) hl hm (by omega) (by rw [hx'];exact h));have ho:=hid (hB.t t);rw [hx'] at ho;clear hx hx' hB hm;obtain ⟨lev,idle,rdy,on,gone,owns,secs,opn,len,lng,ran,tak,dl⟩:=x;dsimp only at *;obtain ⟨r1,hr1⟩:∃ r1,r1=w64 (ran+m):=⟨_,rfl⟩;have u1:IntKind.u64.wrap (ran+m)=r1:=by rw [IntKind.wrap_u64,hr1]
 obtain ⟨l1,hl1⟩:∃ l1,l1=w64 (len+m):=⟨_,rfl⟩;have u2:IntKind.u64.wrap (len+m)=l1:=by rw [IntKind.wrap_u64,hl1]
 have HE:=hid (HR.out ⟨lev,idle,rdy,on,gone,owns,secs,opn,len,lng,r1,tak,dl⟩ (by unfold Sk.go;rw [if_neg (by decide),hr1]));dsimp only at HE;clear HR hr1 hl1
 go_enter Tryz.func58,Tryz.ntmps58
 go_wp2_with fail;refine wp_gen (w0:=w0) ?_;intro wx hsx0;obtain ⟨T1,hT1⟩:∃ T1,T1=B.ts.set t ⟨lev,idle,rdy,on,gone,owns,secs,opn,len,lng,r1,tak,dl⟩:=⟨_,rfl⟩;have hsx:Sat w0 wx (pts g 0 [.slice (some ⟨tg,tq9,none⟩) B.ts.length tc,.map (some mb),.int .i64 B.run,.bool B.ent,.slice ja B.jb.length jc]*(recsP (.slice (some ⟨tg,tq9,none⟩) B.ts.length tc) T1*(mpP mb B.ow*(recsP (.slice ja B.jb.length jc) B.jb*F)))):=by rw [hT1];exact own_left
 have hTl:T1.length=B.ts.length:=by rw [hT1,List.length_set]
 haveI lT:Lt t T1.length:=⟨by omega⟩;haveI eT:El T1 t ⟨lev,idle,rdy,on,gone,owns,secs,opn,len,lng,r1,tak,dl⟩:=⟨by rw [hT1];exact (El.set B.ts t _).eq⟩;have hopn:∀ k,k<B.ts.length→(sg T1 k).opn≤B.jb.length:=fun k hk=>by
  rw [hT1,sg_set hl]
  split
  ·exact ho.out
  ·exact H.out.opn _ (sg_mem hk)
 have HT:=hid (And.intro hT1 (And.intro hTl hopn));clear hsx0 hs hT1 hTl hopn
 go_loopw [57] (fun i wr=>∃ (k:Nat) (J:List Jb),k≤B.ts.length∧i=.int .i64 k∧J=lowF T1 lev m k B.jb∧Sat w0 wr (pts g 0 [.slice (some ⟨tg,tq9,none⟩) B.ts.length tc,.map (some mb),.int .i64 B.run,.bool B.ent,.slice ja B.jb.length jc]*(recsP (.slice (some ⟨tg,tq9,none⟩) B.ts.length tc) T1*(mpP mb B.ow*(recsP (.slice ja B.jb.length jc) J*(F*any)))))) (fun i _=>B.ts.length-(intOf i).toNat)
 case atStart=>exact ⟨0,B.jb,Nat.zero_le _,rfl,rfl,own_left⟩
 case round =>
  obtain ⟨k,J,hk,rfl,hJ,hsr⟩:=hrel;clear hsx;have HJ:=hid (And.intro hJ (show J.length=B.jb.length by rw [hJ];exact lowF_len ..));clear hJ
  by_cases hlt:k<B.ts.length
  ·have d3:decide (k<B.ts.length)=true:=decide_eq_true hlt;have i3:(k:Int)<(B.ts.length:Int):=by omega
   haveI:Lt k T1.length:=⟨by rw [HT.out.2.1];exact hlt⟩;have hop:=HT.out.2.2 k hlt;have hnx:Hid (lowF T1 lev m (k+1) B.jb=low1 T1 lev m J k):=by unfold Hid;rw [HJ.out.1];exact fold_snoc ..
   unfold low1 at hnx;obtain ⟨y,hy⟩:∃ y,y=sg T1 k:=⟨_,rfl⟩;haveI:El T1 k y:=⟨hy.symm⟩;rw [← hy] at hop hnx;clear hy
   by_cases h4:0<y.opn
   ·have e4:decide (0<y.opn)=true:=decide_eq_true h4
    by_cases h5:y.lev<lev
    ·have e5:decide (y.lev<lev)=true:=decide_eq_true h5;rw [if_pos ⟨h4,h5⟩] at hnx;haveI:Lt (y.opn-1) J.length:=⟨by rw [HJ.out.2];omega⟩;obtain ⟨jg0,jo,rfl⟩:=recs_at (hsr.pull (Q:=recsP (.slice ja B.jb.length jc) J)) (by rw [HJ.out.2];omega);have i4:((y.opn-1:Nat):Int)<(B.jb.length:Int):=by omega
     have d4:decide (y.opn-1<B.jb.length)=true:=decide_eq_true (by omega);have u4:IntKind.i64.wrap ((y.opn:Int)-1)=((y.opn-1:Nat):Int):=by rw [IntKind.wrap_i64];omega
     obtain ⟨q,hq⟩:∃ q,q=jg J (y.opn-1):=⟨_,rfl⟩;haveI:El J (y.opn-1) q:=⟨hq.symm⟩;rw [← hq] at hnx;clear hq h4 h5 hop;obtain ⟨task,num,rel,fi,ended,missed,lower,bound,tidy⟩:=q;dsimp only at hnx;obtain ⟨z,hz⟩:∃ z,z=w64 (lower+m):=⟨_,rfl⟩;have u5:IntKind.u64.wrap (lower+m)=z:=by rw [IntKind.wrap_u64,hz]
     rw [← hz] at hnx;clear hz;go_wp2_with fail;go_quiet (fail);go_wp2_with fail;go_roundw
     case rel =>
      refine ⟨k+1,_,by omega,by go_num,hnx.out.symm,?_⟩;exact own_left
     case measure=>simp [intOf];omega
    ·have e5:decide (y.lev<lev)=false:=decide_eq_false h5;rw [if_neg (fun h=>h5 h.2)] at hnx;clear h4 h5 hop;go_wp2_with fail;go_quiet (fail);go_wp2_with fail;go_roundw
     case rel =>
      refine ⟨k+1,_,by omega,by go_num,hnx.out.symm,?_⟩;exact own_left
     case measure=>simp [intOf];omega
   ·have e4:decide (0<y.opn)=false:=decide_eq_false h4;rw [if_neg (fun h=>h4 h.1)] at hnx;clear h4 hop;go_wp2_with fail;go_quiet (fail);go_wp2_with fail;go_roundw
    case rel =>
     refine ⟨k+1,_,by omega,by go_num,hnx.out.symm,?_⟩;exact own_left
    case measure=>simp [intOf];omega
  ·have d3:decide (k<B.ts.length)=false:=decide_eq_false hlt;obtain rfl:k=B.ts.length:=by omega
   clear hlt;go_wp2_with fail
   go_end0
   rw [HE.out];obtain ⟨hT1,hTl,_⟩:=HT.out;obtain ⟨hJ1,hJ2⟩:=HJ.out;refine ⟨rfl,bk_in2 (mb:=mb) (ta:=some ⟨tg,tq9,none⟩) (ja:=ja) (tc:=tc) (jc:=jc) T1 B.ow B.run B.ent J (by rw [hT1];rfl) rfl rfl rfl (by rw [hJ1,hT1];rfl) ?_⟩;rw [hTl,hJ2];exact own_left
theorem stRanL (g:Nat) (n:Nat) (B:Bk) (hB:BOk n B) (hn:n≤64) (hjl:B.jb.length≤1000000) (t:Nat) (ht:t<n) (m:Int) (hm:m≠0) (hlg:(B.t t).lng<w64 ((B.t t).len+m)) (w0 w:World) (F:HP) (hs:Sat w0 w (bkP g B*F)) :
  Calls Tryz.prog 58 #[.pointer (some ⟨g,0,none⟩),.int .i64 t,.int .u64 m,.bool true] w (RetV w0 (.tuple #[]) (bkP g (B.ran t m true)*F)):=by
 obtain ⟨mb,ta,tc,ja,jc,hs⟩:=bk_out hs;have H:=hid hB;have hl:t<B.ts.length:=by rw [hB.len];exact ht
 have hts:B.ts.length≤64:=by rw [hB.len];exact hn
 have d1:decide (t<B.ts.length)=true:=decide_eq_true hl;have i1:(t:Int)<(B.ts.length:Int):=by omega
 have e1:((t:Int)==255)=false:=by simp;omega
 have e2:(m==0)=false:=by simp [hm]
 haveI:Lt t B.ts.length:=⟨hl⟩;obtain ⟨tg,tq9,rfl⟩:=recs_at (hs.pull (Q:=recsP (.slice ta B.ts.length tc) B.ts)) (by omega);obtain ⟨x,hx⟩:∃ x,x=sg B.ts t:=⟨_,rfl⟩;have hx':B.t t=x:=hx.symm;haveI e0:El B.ts t x:=⟨hx.symm⟩;have HR:=hid (fun (x1:Sk) (h:x1=x.go m true)=>ran_eq (x1:=x1) (inn:=true) hl hm (by omega) (by rw [hx'];exact h));have ho:=hid (hB.t t);rw [hx'] at ho;rw [hx'] at hlg;clear hx hx' hB hm;obtain ⟨lev,idle,rdy,on,gone,owns,secs,opn,len,lng,ran,tak,dl⟩:=x;dsimp only at *;obtain ⟨r1,hr1⟩:∃ r1,r1=w64 (ran+m):=⟨_,rfl⟩;have u1:IntKind.u64.wrap (ran+m)=r1:=by rw [IntKind.wrap_u64,hr1]
 obtain ⟨l1,hl1⟩:∃ l1,l1=w64 (len+m):=⟨_,rfl⟩;have u2:IntKind.u64.wrap (len+m)=l1:=by rw [IntKind.wrap_u64,hl1]
 rw [← hl1] at hlg;have c1:(lng<l1)=True:=eq_true hlg;have c2:decide (lng<l1)=true:=decide_eq_true hlg;have HE:=hid (HR.out ⟨lev,idle,rdy,on,gone,owns,secs,opn,l1,l1,r1,tak,dl⟩ (by unfold Sk.go;rw [if_pos rfl,hr1,hl1];dsimp only;rw [← hl1,Int.max_eq_right (by omega)]));dsimp only at HE;clear HR hr1 hl1 hlg
 go_enter Tryz.func58,Tryz.ntmps58
 go_wp2_with fail;refine wp_gen (w0:=w0) ?_;intro wx hsx;go_still_tail 12,(by kernel_rfl);change wpList _ _ _ _ _ wx.drew;go_wp2_with fail;refine wp_gen (w0:=w0) ?_;intro wx hsx0;obtain ⟨T1,hT1⟩:∃ T1,T1=B.ts.set t ⟨lev,idle,rdy,on,gone,owns,secs,opn,l1,l1,r1,tak,dl⟩:=⟨_,rfl⟩;have hsx:Sat w0 wx (pts g 0 [.slice (some ⟨tg,tq9,none⟩) B.ts.length tc,.map (some mb),.int .i64 B.run,.bool B.ent,.slice ja B.jb.length jc]*(recsP (.slice (some ⟨tg,tq9,none⟩) B.ts.length tc) T1*(mpP mb B.ow*(recsP (.slice ja B.jb.length jc) B.jb*F)))):=by rw [hT1];exact own_left
 have hTl:T1.length=B.ts.length:=by rw [hT1,List.length_set]
 haveI lT:Lt t T1.length:=⟨by omega⟩;haveI eT:El T1 t ⟨lev,idle,rdy,on,gone,owns,secs,opn,l1,l1,r1,tak,dl⟩:=⟨by rw [hT1];exact (El.set B.ts t _).eq⟩;have hopn:∀ k,k<B.ts.length→(sg T1 k).opn≤B.jb.length:=fun k hk=>by
  rw [hT1,sg_set hl]
  split
  ·exact ho.out
  ·exact H.out.opn _ (sg_mem hk)
 have HT:=hid (And.intro hT1 (And.intro hTl hopn));clear hsx0 hs hT1 hTl hopn
 go_loopw [57] (fun i wr=>∃ (k:Nat) (J:List Jb),k≤B.ts.length∧i=.int .i64 k∧J=lowF T1 lev m k B.jb∧Sat w0 wr (pts g 0 [.slice (some ⟨tg,tq9,none⟩) B.ts.length tc,.map (some mb),.int .i64 B.run,.bool B.ent,.slice ja B.jb.length jc]*(recsP (.slice (some ⟨tg,tq9,none⟩) B.ts.length tc) T1*(mpP mb B.ow*(recsP (.slice ja B.jb.length jc) J*(F*any)))))) (fun i _=>B.ts.length-(intOf i).toNat)
 case atStart=>exact ⟨0,B.jb,Nat.zero_le _,rfl,rfl,own_left⟩
 case round =>
  obtain ⟨k,J,hk,rfl,hJ,hsr⟩:=hrel;clear hsx;have HJ:=hid (And.intro hJ (show J.length=B.jb.length by rw [hJ];exact lowF_len ..));clear hJ
  by_cases hlt:k<B.ts.length
  ·have d3:decide (k<B.ts.length)=true:=decide_eq_true hlt;have i3:(k:Int)<(B.ts.length:Int):=by omega
   haveI:Lt k T1.length:=⟨by rw [HT.out.2.1];exact hlt⟩;have hop:=HT.out.2.2 k hlt;have hnx:Hid (lowF T1 lev m (k+1) B.jb=low1 T1 lev m J k):=by unfold Hid;rw [HJ.out.1];exact fold_snoc ..
   unfold low1 at hnx;obtain ⟨y,hy⟩:∃ y,y=sg T1 k:=⟨_,rfl⟩;haveI:El T1 k y:=⟨hy.symm⟩;rw [← hy] at hop hnx;clear hy
   by_cases h4:0<y.opn
   ·have e4:decide (0<y.opn)=true:=decide_eq_true h4
    by_cases h5:y.lev<lev
    ·have e5:decide (y.lev<lev)=true:=decide_eq_true h5;rw [if_pos ⟨h4,h5⟩] at hnx;haveI:Lt (y.opn-1) J.length:=⟨by rw [HJ.out.2];omega⟩;obtain ⟨jg0,jo,rfl⟩:=recs_at (hsr.pull (Q:=recsP (.slice ja B.jb.length jc) J)) (by rw [HJ.out.2];omega);have i4:((y.opn-1:Nat):Int)<(B.jb.length:Int):=by omega
     have d4:decide (y.opn-1<B.jb.length)=true:=decide_eq_true (by omega);have u4:IntKind.i64.wrap ((y.opn:Int)-1)=((y.opn-1:Nat):Int):=by rw [IntKind.wrap_i64];omega
     obtain ⟨q,hq⟩:∃ q,q=jg J (y.opn-1):=⟨_,rfl⟩;haveI:El J (y.opn-1) q:=⟨hq.symm⟩;rw [← hq] at hnx;clear hq h4 h5 hop;obtain ⟨task,num,rel,fi,ended,missed,lower,bound,tidy⟩:=q;dsimp only at hnx;obtain ⟨z,hz⟩:∃ z,z=w64 (lower+m):=⟨_,rfl⟩;have u5:IntKind.u64.wrap (lower+m)=z:=by rw [IntKind.wrap_u64,hz]
     rw [← hz] at hnx;clear hz;go_wp2_with fail;go_quiet (fail);go_wp2_with fail;go_roundw
     case rel =>
      refine ⟨k+1,_,by omega,by go_num,hnx.out.symm,?_⟩;exact own_left
     case measure=>simp [intOf];omega
    ·have e5:decide (y.lev<lev)=false:=decide_eq_false h5;rw [if_neg (fun h=>h5 h.2)] at hnx;clear h4 h5 hop;go_wp2_with fail;go_quiet (fail);go_wp2_with fail;go_roundw
     case rel =>
      refine ⟨k+1,_,by omega,by go_num,hnx.out.symm,?_⟩;exact own_left
     case measure=>simp [intOf];omega
   ·have e4:decide (0<y.opn)=false:=decide_eq_false h4;rw [if_neg (fun h=>h4 h.1)] at hnx;clear h4 hop;go_wp2_with fail;go_quiet (fail);go_wp2_with fail;go_roundw
    case rel =>
     refine ⟨k+1,_,by omega,by go_num,hnx.out.symm,?_⟩;exact own_left
    case measure=>simp [intOf];omega
  ·have d3:decide (k<B.ts.length)=false:=decide_eq_false hlt;obtain rfl:k=B.ts.length:=by omega
   clear hlt;go_wp2_with fail
   go_end0
   rw [HE.out];obtain ⟨hT1,hTl,_⟩:=HT.out;obtain ⟨hJ1,hJ2⟩:=HJ.out;refine ⟨rfl,bk_in2 (mb:=mb) (ta:=some ⟨tg,tq9,none⟩) (ja:=ja) (tc:=tc) (jc:=jc) T1 B.ow B.run B.ent J (by rw [hT1];rfl) rfl rfl rfl (by rw [hJ1,hT1];rfl) ?_⟩;rw [hTl,hJ2];exact own_left
theorem stRanG (g:Nat) (n:Nat) (B:Bk) (hB:BOk n B) (hn:n≤64) (hjl:B.jb.length≤1000000) (t:Nat) (ht:t<n) (m:Int) (hm:m≠0) (hlg:¬ (B.t t).lng<w64 ((B.t t).len+m)) (w0 w:World) (F:HP) (hs:Sat w0 w (bkP g B*F)) :
  Calls Tryz.prog 58 #[.pointer (some ⟨g,0,none⟩),.int .i64 t,.int .u64 m,.bool true] w (RetV w0 (.tuple #[]) (bkP g (B.ran t m true)*F)):=by
 obtain ⟨mb,ta,tc,ja,jc,hs⟩:=bk_out hs;have H:=hid hB;have hl:t<B.ts.length:=by rw [hB.len];exact ht
 have hts:B.ts.length≤64:=by rw [hB.len];exact hn
 have d1:decide (t<B.ts.length)=true:=decide_eq_true hl;have i1:(t:Int)<(B.ts.length:Int):=by omega
 have e1:((t:Int)==255)=false:=by simp;omega
 have e2:(m==0)=false:=by simp [hm]
 haveI:Lt t B.ts.length:=⟨hl⟩;obtain ⟨tg,tq9,rfl⟩:=recs_at (hs.pull (Q:=recsP (.slice ta B.ts.length tc) B.ts)) (by omega);obtain ⟨x,hx⟩:∃ x,x=sg B.ts t:=⟨_,rfl⟩;have hx':B.t t=x:=hx.symm;haveI e0:El B.ts t x:=⟨hx.symm⟩;have HR:=hid (fun (x1:Sk) (h:x1=x.go m true)=>ran_eq (x1:=x1) (inn:=true) hl hm (by omega) (by rw [hx'];exact h));have ho:=hid (hB.t t);rw [hx'] at ho;rw [hx'] at hlg;clear hx hx' hB hm;obtain ⟨lev,idle,rdy,on,gone,owns,secs,opn,len,lng,ran,tak,dl⟩:=x;dsimp only at *;obtain ⟨r1,hr1⟩:∃ r1,r1=w64 (ran+m):=⟨_,rfl⟩;have u1:IntKind.u64.wrap (ran+m)=r1:=by rw [IntKind.wrap_u64,hr1]
 obtain ⟨l1,hl1⟩:∃ l1,l1=w64 (len+m):=⟨_,rfl⟩;have u2:IntKind.u64.wrap (len+m)=l1:=by rw [IntKind.wrap_u64,hl1]
 rw [← hl1] at hlg;have c1:(lng<l1)=False:=eq_false hlg;have c2:decide (lng<l1)=false:=decide_eq_false hlg;have HE:=hid (HR.out ⟨lev,idle,rdy,on,gone,owns,secs,opn,l1,lng,r1,tak,dl⟩ (by unfold Sk.go;rw [if_pos rfl,hr1,hl1];dsimp only;rw [← hl1,Int.max_eq_left (by omega)]));dsimp only at HE;clear HR hr1 hl1 hlg
 go_enter Tryz.func58,Tryz.ntmps58
 go_wp2_with fail;refine wp_gen (w0:=w0) ?_;intro wx hsx;go_still_tail 12,(by kernel_rfl);change wpList _ _ _ _ _ wx.drew;go_wp2_with fail;refine wp_gen (w0:=w0) ?_;intro wx hsx0;obtain ⟨T1,hT1⟩:∃ T1,T1=B.ts.set t ⟨lev,idle,rdy,on,gone,owns,secs,opn,l1,lng,r1,tak,dl⟩:=⟨_,rfl⟩;have hsx:Sat w0 wx (pts g 0 [.slice (some ⟨tg,tq9,none⟩) B.ts.length tc,.map (some mb),.int .i64 B.run,.bool B.ent,.slice ja B.jb.length jc]*(recsP (.slice (some ⟨tg,tq9,none⟩) B.ts.length tc) T1*(mpP mb B.ow*(recsP (.slice ja B.jb.length jc) B.jb*F)))):=by rw [hT1];exact own_left
 have hTl:T1.length=B.ts.length:=by rw [hT1,List.length_set]
 haveI lT:Lt t T1.length:=⟨by omega⟩;haveI eT:El T1 t ⟨lev,idle,rdy,on,gone,owns,secs,opn,l1,lng,r1,tak,dl⟩:=⟨by rw [hT1];exact (El.set B.ts t _).eq⟩;have hopn:∀ k,k<B.ts.length→(sg T1 k).opn≤B.jb.length:=fun k hk=>by
  rw [hT1,sg_set hl]
  split
  ·exact ho.out
  ·exact H.out.opn _ (sg_mem hk)
 have HT:=hid (And.intro hT1 (And.intro hTl hopn));clear hsx0 hs hT1 hTl hopn
 go_loopw [57] (fun i wr=>∃ (k:Nat) (J:List Jb),k≤B.ts.length∧i=.int .i64 k∧J=lowF T1 lev m k B.jb∧Sat w0 wr (pts g 0 [.slice (some ⟨tg,tq9,none⟩) B.ts.length tc,.map (some mb),.int .i64 B.run,.bool B.ent,.slice ja B.jb.length jc]*(recsP (.slice (some ⟨tg,tq9,none⟩) B.ts.length tc) T1*(mpP mb B.ow*(recsP (.slice ja B.jb.length jc) J*(F*any)))))) (fun i _=>B.ts.length-(intOf i).toNat)
 case atStart=>exact ⟨0,B.jb,Nat.zero_le _,rfl,rfl,own_left⟩
 case round =>
  obtain ⟨k,J,hk,rfl,hJ,hsr⟩:=hrel;clear hsx;have HJ:=hid (And.intro hJ (show J.length=B.jb.length by rw [hJ];exact lowF_len ..));clear hJ
  by_cases hlt:k<B.ts.length
  ·have d3:decide (k<B.ts.length)=true:=decide_eq_true hlt;have i3:(k:Int)<(B.ts.length:Int):=by omega
   haveI:Lt k T1.length:=⟨by rw [HT.out.2.1];exact hlt⟩;have hop:=HT.out.2.2 k hlt;have hnx:Hid (lowF T1 lev m (k+1) B.jb=low1 T1 lev m J k):=by unfold Hid;rw [HJ.out.1];exact fold_snoc ..
   unfold low1 at hnx;obtain ⟨y,hy⟩:∃ y,y=sg T1 k:=⟨_,rfl⟩;haveI:El T1 k y:=⟨hy.symm⟩;rw [← hy] at hop hnx;clear hy
   by_cases h4:0<y.opn
   ·have e4:decide (0<y.opn)=true:=decide_eq_true h4
    by_cases h5:y.lev<lev
    ·have e5:decide (y.lev<lev)=true:=decide_eq_true h5;rw [if_pos ⟨h4,h5⟩] at hnx;haveI:Lt (y.opn-1) J.length:=⟨by rw [HJ.out.2];omega⟩;obtain ⟨jg0,jo,rfl⟩:=recs_at (hsr.pull (Q:=recsP (.slice ja B.jb.length jc) J)) (by rw [HJ.out.2];omega);have i4:((y.opn-1:Nat):Int)<(B.jb.length:Int):=by omega
     have d4:decide (y.opn-1<B.jb.length)=true:=decide_eq_true (by omega);have u4:IntKind.i64.wrap ((y.opn:Int)-1)=((y.opn-1:Nat):Int):=by rw [IntKind.wrap_i64];omega
     obtain ⟨q,hq⟩:∃ q,q=jg J (y.opn-1):=⟨_,rfl⟩;haveI:El J (y.opn-1) q:=⟨hq.symm⟩;rw [← hq] at hnx;clear hq h4 h5 hop;obtain ⟨task,num,rel,fi,ended,missed,lower,bound,tidy⟩:=q;dsimp only at hnx;obtain ⟨z,hz⟩:∃ z,z=w64 (lower+m):=⟨_,rfl⟩;have u5:IntKind.u64.wrap (lower+m)=z:=by rw [IntKind.wrap_u64,hz]
     rw [← hz] at hnx;clear hz;go_wp2_with fail;go_quiet (fail);go_wp2_with fail;go_roundw
     case rel =>
      refine ⟨k+1,_,by omega,by go_num,hnx.out.symm,?_⟩;exact own_left
     case measure=>simp [intOf];omega
    ·have e5:decide (y.lev<lev)=false:=decide_eq_false h5;rw [if_neg (fun h=>h5 h.2)] at hnx;clear h4 h5 hop;go_wp2_with fail;go_quiet (fail);go_wp2_with fail;go_roundw
     case rel =>
      refine ⟨k+1,_,by omega,by go_num,hnx.out.symm,?_⟩;exact own_left
     case measure=>simp [intOf];omega
   ·have e4:decide (0<y.opn)=false:=decide_eq_false h4;rw [if_neg (fun h=>h4 h.1)] at hnx;clear h4 hop;go_wp2_with fail;go_quiet (fail);go_wp2_with fail;go_roundw
    case rel =>
     refine ⟨k+1,_,by omega,by go_num,hnx.out.symm,?_⟩;exact own_left
    case measure=>simp [intOf];omega
  ·have d3:decide (k<B.ts.length)=false:=decide_eq_false hlt;obtain rfl:k=B.ts.length:=by omega
   clear hlt;go_wp2_with fail
   go_end0
   rw [HE.out];obtain ⟨hT1,hTl,_⟩:=HT.out;obtain ⟨hJ1,hJ2⟩:=HJ.out;refine ⟨rfl,bk_in2 (mb:=mb) (ta:=some ⟨tg,tq9,none⟩) (ja:=ja) (tc:=tc) (jc:=jc) T1 B.ow B.run B.ent J (by rw [hT1];rfl) rfl rfl rfl (by rw [hJ1,hT1];rfl) ?_⟩;rw [hTl,hJ2];exact own_left
theorem stRan (g:Nat) (n:Nat) (B:Bk) (hB:BOk n B) (hn:n≤64) (hjl:B.jb.length≤1000000) (who:Int) (hw:who=255∨0≤who∧who<n) (m:Int) (inn:Bool) (w0 w:World) (F:HP) (hs:Sat w0 w (bkP g B*F)) :
  Calls Tryz.prog 58 #[.pointer (some ⟨g,0,none⟩),.int .i64 who,.int .u64 m,.bool inn] w (RetV w0 (.tuple #[]) (bkP g (B.ran who m inn)*F)):=by
 by_cases h:who=255
 ·subst h;exact stRan255 g n B hB hn hjl m inn w0 w F hs
 by_cases hm:m=0
 ·subst hm;exact stRan0 g n B hB hn hjl who h inn w0 w F hs
 have hw:=hw.resolve_left h;obtain ⟨t,rfl⟩:∃ t:Nat,who=t:=⟨who.toNat,by omega⟩
 cases inn with
 | false=>exact stRanF g n B hB hn hjl t (by omega) m hm w0 w F hs
 | true =>
  by_cases hlg:(B.t t).lng<w64 ((B.t t).len+m)
  ·exact stRanL g n B hB hn hjl t (by omega) m hm hlg w0 w F hs
  ·exact stRanG g n B hB hn hjl t (by omega) m hm hlg w0 w F hs
theorem stQuiet (g:Nat) (n:Nat) (B:Bk) (hB:BOk n B) (hn:n≤64) (hjl:B.jb.length≤1000000) (m:Int) (w0 w:World) (F:HP) (hs:Sat w0 w (bkP g B*F)) :
  Calls Tryz.prog 34 #[.pointer (some ⟨g,0,none⟩),.int .u64 m] w (RetV w0 (.tuple #[]) (bkP g (B.quiet m)*F)):=by
 have hR:=hid (fun (who:Int) (hw:who=255∨0≤who∧who<n) (inn:Bool) (w:World) (G:HP) (hs:Sat w0 w (bkP g B*G))=>stRan g n B hB hn hjl who hw m inn w0 w G hs);have hX:=hid (fun (w:World) (G:HP) (mb:Nat) (ta:Option Addr) (tc:Nat) (ja:Option Addr) (jc:Nat) (h:Sat w0 w (pts g 0 [.slice ta B.ts.length tc,.map (some mb),.int .i64 B.run,.bool B.ent,.slice ja B.jb.length jc]*(recsP (.slice ta B.ts.length tc) B.ts*(mpP mb B.ow*(recsP (.slice ja B.jb.length jc) B.jb*G)))))=>(show Sat w0 w (bkP g B*G) from bk_in h));have hrun:=hB.run;have H:=hid hB;have hts:B.ts.length≤64:=by rw [hB.len];exact hn
 cases hent:B.ent with
 | true =>
  have hE:Hid (B.quiet m=B):=by unfold Hid Bk.quiet;rw [if_pos (.inl hent)]
  obtain ⟨mb,ta,tc,ja,jc,hs⟩:=bk_out hs;rw [hent] at hs hX;clear hB hrun hent
  go_enter Tryz.func34,Tryz.ntmps34
  go_wp2_with fail
  go_end0
  rw [hE.out];exact ⟨rfl,hX.out _ F mb ta tc ja jc own_left⟩
 | false =>
  by_cases h1:B.run=255
  ·have hE:Hid (B.quiet m=B):=by unfold Hid Bk.quiet;rw [if_pos (.inr h1)]
   obtain ⟨mb,ta,tc,ja,jc,hs⟩:=bk_out hs;rw [hent,h1] at hs hX;clear hB hrun hent h1
   go_enter Tryz.func34,Tryz.ntmps34
   go_wp2_with fail
   go_end0
   rw [hE.out];exact ⟨rfl,hX.out _ F mb ta tc ja jc own_left⟩
  ·have hr2:=hrun.resolve_left h1;obtain ⟨t,ht⟩:∃ t:Nat,B.run=t:=⟨B.run.toNat,by omega⟩;have hE:Hid (B.quiet m=B.ran t m (decide (0<(B.t t).owns))):=by unfold Hid Bk.quiet;rw [if_neg (by rw [hent];intro h;rcases h with h | h;cases h;exact h1 h),ht,Int.toNat_natCast]
   have hRt:=hid (hR.out t (.inr (by omega)) (decide (0<(B.t t).owns)));obtain ⟨mb,ta,tc,ja,jc,hs⟩:=bk_out hs;have hl:t<B.ts.length:=by rw [hB.len];omega
   have d1:decide (t<B.ts.length)=true:=decide_eq_true hl;have i1:(t:Int)<(B.ts.length:Int):=by omega
   have e1:((t:Int)==255)=false:=by simp;omega
   haveI:Lt t B.ts.length:=⟨hl⟩;obtain ⟨tg,tq9,rfl⟩:=recs_at (hs.pull (Q:=recsP (.slice ta B.ts.length tc) B.ts)) (by omega);obtain ⟨x,hx⟩:∃ x,x=sg B.ts t:=⟨_,rfl⟩;have hx':B.t t=x:=hx.symm;haveI e0:El B.ts t x:=⟨hx.symm⟩;rw [hx'] at hRt hE;rw [hent,ht] at hs hX;clear hB hrun hent h1 hr2 ht hx hx' hR
   go_enter Tryz.func34,Tryz.ntmps34
   go_wp2_with fail;refine wp_gen (w0:=w0) ?_;intro wx hsx
   go_still_tail 18,(by kernel_rfl)
   change wpList _ _ _ _ _ wx.drew
   go_wp2_with fail;refine (hRt.out _ F (hX.out _ F mb (some ⟨tg,tq9,none⟩) tc ja jc own_left)).mono ?_;rintro en w1 ⟨rfl,hs1⟩;go_wp2_with fail
   go_end0
   rw [hE.out];exact ⟨rfl,own_left⟩
structure Walks (n:Nat) (B:Bk) (l:List Ev):Prop where
 bk:∀ k,k≤l.length→BOk n (B.learns (l.take k))
 ev:∀ k,k<l.length→EvIn n (evg l k)
 ends:∀ k,k<l.length→(evg l k).k=8→0<((B.learns (l.take k)).t (evg l k).a).opn
theorem take_next {l:List Ev} {k:Nat} (h:k<l.length):l.take (k+1)=l.take k++[evg l k]:=by
 rw [List.take_add_one,List.getElem?_eq_getElem h];unfold evg;rw [List.getD_eq_getElem?_getD,List.getElem?_eq_getElem h];rfl
theorem learns_next (B:Bk) {l:List Ev} {k:Nat} (h:k<l.length):B.learns (l.take (k+1))=(B.learns (l.take k)).learn (evg l k):=by
 rw [take_next h];unfold Bk.learns;rw [List.foldl_append];rfl
theorem enter_next {l:List Ev} {k:Nat} (h:k<l.length):hasEnter (l.take (k+1))=(hasEnter (l.take k) || decide ((evg l k).k=3)):=by
 rw [take_next h];unfold hasEnter;rw [List.any_append];simp
theorem stStep (g:Nat) (n:Nat) (B:Bk) (hB:BOk n B) (hn:n≤64) (M:Int) (hN:Num M B) (l:List Ev) (hM:M+l.length<1000000) (hW:Walks n B l) (v:Value) (w0 w:World) (F:HP) (hst:StaysE w0 F v l) (hs:Sat w0 w (bkP g B*F)) :
  Calls Tryz.prog 35 #[.pointer (some ⟨g,0,none⟩),v] w (RetV w0 (.tuple #[]) (bkP g (B.step l)*F)):=by
 have hBt:Hid (B.ts.length=n):=hB.len;have hBn:B.ts.length≤64:=by rw [hB.len];exact hn
 obtain ⟨mb,ta,tc,ja,jc,hs1⟩:=bk_out hs;have Hst:=hid hst;obtain ⟨va,vc,rfl⟩:∃ va vc,v=.slice va l.length vc:=by
  obtain ⟨a,cap,b,off,e,_⟩:=hst w (hs.drop);exact ⟨a,cap,e⟩
 have hl1:l.length<1000000:=by have:=hN.nn;omega
 have HL:=hid (fun (k:Nat) (hk:k<l.length) (h8:(evg l k).k=8→0<((B.learns (l.take k)).t (evg l k).a).opn) (w:World) (G:HP) (hs:Sat w0 w (bkP g (B.learns (l.take k))*G)) =>
  stLearn g n _ (hW.bk k (by omega)) hn (M+(l.take k).length) (Num.learns (B:=B) hN) (by rw [List.length_take];omega) (evg l k) (hW.ev k hk) h8 w0 w G hs)
 have HW:=hid hW;have HJ:=hid (show (B.learns l).jb.length≤1000000 by have:=(Num.learns (B:=B) (l:=l) hN).jobs;omega);have hCl:=hid (fun (w:World) (G:HP) (hs:Sat w0 w (recsP (.slice ta B.ts.length tc) B.ts*G))=>cloneSk ta tc B.ts (by omega) w0 w G hs);have hX:=hid (fun (w:World) (G:HP) (h:Sat w0 w (pts g 0 [.slice ta B.ts.length tc,.map (some mb),.int .i64 B.run,.bool B.ent,.slice ja B.jb.length jc]*(recsP (.slice ta B.ts.length tc) B.ts*(mpP mb B.ow*(recsP (.slice ja B.jb.length jc) B.jb*G)))))=>(show Sat w0 w (bkP g B*G) from bk_in h));clear hs hst hB hW hN
 go_enter Tryz.func35,Tryz.ntmps35
 go_wp2_with fail;refine (hCl.out _ _ own).mono ?_;rintro en w1 ⟨v1,rfl,hs2⟩;obtain ⟨aa,ac,rfl⟩:=hs2.recs_form;have hs3:Sat w0 w1 (bkP g B*(recsP (.slice aa B.ts.length ac) B.ts*F)):=hX.out _ _ own_left;clear hs1 hs2 hX hCl;go_wp2_with fail;refine wp_gen (w0:=w0) ?_;intro wx hsx;clear hs3
 go_loopw [4,21] (fun lv i wr=>∃ k:Nat,k≤l.length∧lv=.bool (B.ent || hasEnter (l.take k))∧i=.int .i64 k∧Sat w0 wr (bkP g (B.learns (l.take k))*(recsP (.slice aa B.ts.length ac) B.ts*(F*any)))) (fun _ i _=>l.length-(intOf i).toNat)
 case atStart=>exact ⟨0,Nat.zero_le _,by rw [List.take_zero];simp [hasEnter],rfl,(show Sat w0 _ (bkP g B*(recsP (.slice aa B.ts.length ac) B.ts*(F*any))) from own_left)⟩
 case round =>
  obtain ⟨k,hk,rfl,rfl,hsr⟩:=hrel;clear hsx
  by_cases hlt:k<l.length
  ·have d1:decide (k<l.length)=true:=decide_eq_true hlt;have i1:(k:Int)<(l.length:Int):=by omega
   obtain ⟨eg,eo,rfl,hrow0⟩:=rdR_at (k:=k) (Hst.out wr own_left) hlt;have hrow:wr.rangeAt eg (eo+k*6) (evCells (evg l k)):=hrow0;have hnx:=hid (And.intro (learns_next B hlt) (enter_next hlt));have hLk:=hid (HL.out k hlt (HW.out.ends k hlt));generalize evg l k=e at hrow hnx hLk;generalize B.learns (l.take k)=C at hsr hnx hLk;generalize hasEnter (l.take k)=q at hnx;clear hrow0;obtain ⟨ek,cy,co,a,b,v⟩:=e;obtain ⟨z,hz⟩:∃ z,z=(B.ent || q):=⟨_,rfl⟩;rw [← hz];have Hz:=hid hz;clear hz
   cases z
   case false =>
    go_wp2_with (first | (refine wpList_load_mid rfl _ _ rfl _ _ rfl _ _ hrow Tryz.underlying45 rfl (by kernel_rfl) ?_) | (refine wpList_store_sat (w0:=w0) (cells:=[.int .i64 ek,.int .u64 cy,.int .u64 co,.int .u32 a,.int .u32 b,.int .u32 v]) (old:=[.int .i64 0,.int .u64 0,.int .u64 0,.int .u32 0,.int .u32 0,.int .u32 0]) rfl rfl rfl rfl own rfl (by kernel_rfl) rfl ?_;intro wS hsS) | (refine wpList_load_sat (w0:=w0) (cells:=[.int .i64 ek,.int .u64 cy,.int .u64 co,.int .u32 a,.int .u32 b,.int .u32 v]) rfl rfl rfl own Tryz.underlying45 rfl (by kernel_rfl) ?_));refine (hLk.out _ _ own).mono ?_;rintro en w4 ⟨rfl,hs4⟩;clear hsr hsS hrow;go_wp2_with fail;go_roundw
    case rel =>
     refine ⟨k+1,by omega,?_,by go_num,?_⟩
     ·rw [hnx.out.2,← Bool.or_assoc,← Hz.out,Bool.false_or];congr 1
     ·rw [hnx.out.1];exact own_left
    case measure=>simp [intOf];omega
   case true =>
    go_wp2_with (first | (refine wpList_load_mid rfl _ _ rfl _ _ rfl _ _ hrow Tryz.underlying45 rfl (by kernel_rfl) ?_) | (refine wpList_store_sat (w0:=w0) (cells:=[.int .i64 ek,.int .u64 cy,.int .u64 co,.int .u32 a,.int .u32 b,.int .u32 v]) (old:=[.int .i64 0,.int .u64 0,.int .u64 0,.int .u32 0,.int .u32 0,.int .u32 0]) rfl rfl rfl rfl own rfl (by kernel_rfl) rfl ?_;intro wS hsS) | (refine wpList_load_sat (w0:=w0) (cells:=[.int .i64 ek,.int .u64 cy,.int .u64 co,.int .u32 a,.int .u32 b,.int .u32 v]) rfl rfl rfl own Tryz.underlying45 rfl (by kernel_rfl) ?_));refine (hLk.out _ _ own).mono ?_;rintro en w4 ⟨rfl,hs4⟩;clear hsr hsS hrow;go_wp2_with fail;go_roundw
    case rel =>
     refine ⟨k+1,by omega,?_,by go_num,?_⟩
     ·rw [hnx.out.2];rw [← Bool.or_assoc,← Hz.out,Bool.true_or]
     ·rw [hnx.out.1];exact own_left
    case measure=>simp [intOf];omega
  ·have d1:decide (k<l.length)=false:=decide_eq_false hlt;obtain rfl:k=l.length:=by omega
   rw [List.take_length] at hsr;have hCB:BOk n (B.learns l):=by have:=HW.out.bk l.length (Nat.le_refl _);rwa [List.take_length] at this
   have hE:Hid (B.step l=(B.learns l).close (B.ent || hasEnter l) B.ts):=rfl;rw [show l.take l.length=l from List.take_length];have hjC:=HJ.out;clear hlt HL HW HJ hk;generalize B.learns l=C at hsr hCB hE hjC;obtain ⟨z,hz⟩:∃ z,z=(B.ent || hasEnter l):=⟨_,rfl⟩;rw [← hz] at hE ⊢;clear hz
   cases z
   case true =>
    go_wp2_with fail
    go_end0
    rw [hE.out];refine ⟨rfl,?_⟩;unfold Bk.close;rw [if_pos (.inl rfl)];exact own_left
   case false =>
    have hX:=hid (fun (w:World) (G:HP) (mb:Nat) (ta:Option Addr) (tc:Nat) (ja:Option Addr) (jc:Nat) (h:Sat w0 w (pts g 0 [.slice ta C.ts.length tc,.map (some mb),.int .i64 C.run,.bool C.ent,.slice ja C.jb.length jc]*(recsP (.slice ta C.ts.length tc) C.ts*(mpP mb C.ow*(recsP (.slice ja C.jb.length jc) C.jb*G)))))=>(show Sat w0 w (bkP g C*G) from bk_in h));obtain ⟨mb,ta,tc,ja,jc,hs5⟩:=bk_out hsr;clear hsr
    by_cases h1:C.run=255
    ·have hE2:Hid (B.step l=C):=by unfold Hid;rw [hE.out];unfold Bk.close;rw [if_pos (.inr h1)]
     rw [h1] at hs5 hX;clear h1 hE hCB;go_wp2_with fail
     go_end0
     rw [hE2.out];exact ⟨rfl,hX.out _ F mb ta tc ja jc own_left⟩
    ·have hr2:=hCB.run.resolve_left h1;obtain ⟨t,ht⟩:∃ t:Nat,C.run=t:=⟨C.run.toNat,by omega⟩;have htn:t<n:=by omega
     have hl:t<C.ts.length:=by rw [hCB.len];omega
     have hlB:t<B.ts.length:=by rw [hBt.out];omega
     have hcn:C.ts.length≤64:=by rw [hCB.len];exact hn
     have d2:decide (t<C.ts.length)=true:=decide_eq_true hl;have i2:(t:Int)<(C.ts.length:Int):=by omega
     have d3:decide (t<B.ts.length)=true:=decide_eq_true hlB;have i3:(t:Int)<(B.ts.length:Int):=by omega
     have e1:((t:Int)==255)=false:=by simp;omega
     haveI:Lt t C.ts.length:=⟨hl⟩;haveI:Lt t B.ts.length:=⟨hlB⟩;obtain ⟨tg,tq9,rfl⟩:=recs_at (hs5.pull (Q:=recsP (.slice ta C.ts.length tc) C.ts)) (by omega);obtain ⟨ag,ao,rfl⟩:=recs_at (hs5.pull (Q:=recsP (.slice aa B.ts.length ac) B.ts)) (by omega);obtain ⟨x,hx⟩:∃ x,x=sg C.ts t:=⟨_,rfl⟩;have hx':C.t t=x:=hx.symm;haveI e0:El C.ts t x:=⟨hx.symm⟩;obtain ⟨y,hy⟩:∃ y,y=sg B.ts t:=⟨_,rfl⟩;have hY:=hid (fun (w:World) (G:HP) (h:Sat w0 w (recsP (.slice (some ⟨ag,ao,none⟩) B.ts.length ac) B.ts*G))=>(show w.rangeAt ag (ao+t*13) (skCells y) from recs_row h hlB (by rw [hy];rfl)));have hE2:Hid (B.step l=if 0<y.owns∧y.secs<x.secs then (C.setS t { x with lng:=max x.lng (w64 (y.len+1)) }).ran t 1 false else C.ran t 1 (decide (0<y.owns))):=by
      unfold Hid;rw [hE.out];unfold Bk.close;rw [if_neg (fun h=>h.elim (fun h=>by cases h) h1),ht];dsimp only;rw [Int.toNat_natCast,hx',← hy]
     have hX1:=hid ht;rw [ht] at hs5 hX;have HC:=hid hCB;have hxo:=hid (hCB.t t);rw [hx'] at hxo;clear hE h1 ht hx hx' hy hr2 hCB
     by_cases h2:0<y.owns
     ·have e2:decide (0<y.owns)=true:=decide_eq_true h2
      by_cases h3:y.secs<x.secs
      ·have e3:decide (y.secs<x.secs)=true:=decide_eq_true h3;rw [if_pos ⟨h2,h3⟩] at hE2;clear h2 h3;have hD:=hid (fun (D:Bk) (h1:BOk n D) (h2:D.jb.length≤1000000) (w:World) (G:HP) (hs:Sat w0 w (bkP g D*G))=>stRan g n D h1 hn h2 t (.inr (by omega)) 1 false w0 w G hs);obtain ⟨m1,hm1⟩:∃ m1,m1=w64 (y.len+1):=⟨_,rfl⟩;have u1:IntKind.u64.wrap (y.len+1)=m1:=by rw [IntKind.wrap_u64,hm1]
       rw [← hm1] at hE2;clear hm1
       by_cases h4:x.lng<m1
       ·have c1:(x.lng<m1)=True:=eq_true h4;have c2:decide (x.lng<m1)=true:=decide_eq_true h4;rw [Int.max_eq_right (by omega)] at hE2;clear h4;go_wp2_with fail;refine wp_gen (w0:=w0) ?_;intro wx hsx;refine wp_region_early (fun w'=>Sat w0 w' (pts g 0 [.slice (some ⟨tg,tq9,none⟩) C.ts.length tc,.map (some mb),.int .i64 t,.bool C.ent,.slice ja C.jb.length jc]*(recsP (.slice (some ⟨ag,ao,none⟩) B.ts.length ac) B.ts*any))) [(0,true),(1,true),(2,true),(3,true),(4,true),(5,true),(6,true),(7,true),(8,true),(9,true),(10,true),(11,true),(12,true),(13,true),(14,true),(15,true),(16,false),(17,true),(18,false)] (by kernel_rfl) (by kernel_rfl) (fun _ _ _ _ h=>h) own_any2 ?_
        iterate 15 (first | refine early_S ?_ | refine early_N ?_)
        refine early_load_row (cells:=skCells y) rfl rfl rfl rfl (fun w h=>hY.out w _ h.drop) Tryz.underlying100 rfl (by kernel_rfl) ?_;simp only [Act.put,zqA,zqP,zqQ];refine early_G rfl (by rfl) (fun K hK=>?_);go_wp2_with fail
        (first | refine ⟨own_any2,?_⟩ | skip)
        iterate 1 (first | refine early_S ?_ | refine early_N ?_)
        refine early_G rfl (by rfl) (fun K hK=>?_);refine wp_store_sat (w0:=w0) (cells:=skCells y) (old:=skZ) rfl rfl rfl own rfl (by kernel_rfl) rfl ?_;intro wT hsT;refine hK _ _ ⟨own_any2,?_⟩;refine early_done ?_;clear hK K;simp only [Act.put,zqA,zqP,zqQ];go_wp2_with fail;go_quiet (fail);go_wp2_with fail;refine wp_gen (w0:=w0) ?_;intro wx hsx;go_still_tail 11,(by kernel_rfl);change wpList _ _ _ _ _ wx.drew;go_wp2_with fail;refine (hD.out (C.setS t { x with lng:=m1 }) (HC.out.setS hxo.out) hjC _ F ?_).mono ?_
        ·refine bk_in2 (mb:=mb) (ta:=some ⟨tg,tq9,none⟩) (ja:=ja) (tc:=tc) (jc:=jc) (C.ts.set t { x with lng:=m1 }) C.ow t C.ent C.jb rfl rfl hX1.out rfl rfl ?_;rw [List.length_set];exact own_left
        rintro en w9 ⟨rfl,hs9⟩;go_wp2_with fail
        go_end0
        rw [hE2.out];exact ⟨rfl,own_left⟩
       ·have c1:(x.lng<m1)=False:=eq_false h4;have c2:decide (x.lng<m1)=false:=decide_eq_false h4;rw [Int.max_eq_left (by omega)] at hE2;clear h4;go_wp2_with fail;refine wp_gen (w0:=w0) ?_;intro wx hsx;refine wp_region_early (fun w'=>Sat w0 w' (pts g 0 [.slice (some ⟨tg,tq9,none⟩) C.ts.length tc,.map (some mb),.int .i64 t,.bool C.ent,.slice ja C.jb.length jc]*(recsP (.slice (some ⟨ag,ao,none⟩) B.ts.length ac) B.ts*any))) [(0,true),(1,true),(2,true),(3,true),(4,true),(5,true),(6,true),(7,true),(8,true),(9,true),(10,true),(11,true),(12,true),(13,true),(14,true),(15,true),(16,false),(17,true),(18,false)] (by kernel_rfl) (by kernel_rfl) (fun _ _ _ _ h=>h) own_any2 ?_
        iterate 15 (first | refine early_S ?_ | refine early_N ?_)
        refine early_load_row (cells:=skCells y) rfl rfl rfl rfl (fun w h=>hY.out w _ h.drop) Tryz.underlying100 rfl (by kernel_rfl) ?_;simp only [Act.put,zqA,zqP,zqQ];refine early_G rfl (by rfl) (fun K hK=>?_);go_wp2_with fail
        (first | refine ⟨own_any2,?_⟩ | skip)
        iterate 1 (first | refine early_S ?_ | refine early_N ?_)
        refine early_G rfl (by rfl) (fun K hK=>?_);refine wp_store_sat (w0:=w0) (cells:=skCells y) (old:=skZ) rfl rfl rfl own rfl (by kernel_rfl) rfl ?_;intro wT hsT;refine hK _ _ ⟨own_any2,?_⟩;refine early_done ?_;clear hK K;simp only [Act.put,zqA,zqP,zqQ];go_wp2_with fail;go_quiet (fail);go_wp2_with fail;refine wp_gen (w0:=w0) ?_;intro wx hsx;go_still_tail 11,(by kernel_rfl);change wpList _ _ _ _ _ wx.drew;go_wp2_with fail;refine (hD.out (C.setS t { x with lng:=x.lng }) (HC.out.setS hxo.out) hjC _ F ?_).mono ?_
        ·refine bk_in2 (mb:=mb) (ta:=some ⟨tg,tq9,none⟩) (ja:=ja) (tc:=tc) (jc:=jc) (C.ts.set t { x with lng:=x.lng }) C.ow t C.ent C.jb rfl rfl hX1.out rfl rfl ?_;rw [List.length_set];exact own_left
        rintro en w9 ⟨rfl,hs9⟩;go_wp2_with fail
        go_end0
        rw [hE2.out];exact ⟨rfl,own_left⟩
      ·have e3:decide (y.secs<x.secs)=false:=decide_eq_false h3;rw [if_neg (fun h=>h3 h.2),e2] at hE2;clear h2 h3;have hD:=hid (fun (w:World) (G:HP) (hs:Sat w0 w (bkP g C*G))=>stRan g n C HC.out hn hjC t (.inr (by omega)) 1 true w0 w G hs);go_wp2_with fail;refine wp_gen (w0:=w0) ?_;intro wx hsx;refine wp_region_early (fun w'=>Sat w0 w' (pts g 0 [.slice (some ⟨tg,tq9,none⟩) C.ts.length tc,.map (some mb),.int .i64 t,.bool C.ent,.slice ja C.jb.length jc]*(recsP (.slice (some ⟨ag,ao,none⟩) B.ts.length ac) B.ts*any))) [(0,true),(1,true),(2,true),(3,true),(4,true),(5,true),(6,true),(7,true),(8,true),(9,true),(10,true),(11,true),(12,true),(13,true),(14,true),(15,true),(16,false),(17,true),(18,false)] (by kernel_rfl) (by kernel_rfl) (fun _ _ _ _ h=>h) own_any2 ?_
       iterate 15 (first | refine early_S ?_ | refine early_N ?_)
       refine early_load_row (cells:=skCells y) rfl rfl rfl rfl (fun w h=>hY.out w _ h.drop) Tryz.underlying100 rfl (by kernel_rfl) ?_;simp only [Act.put,zqA,zqP,zqQ];refine early_G rfl (by rfl) (fun K hK=>?_);go_wp2_with fail
       (first | refine ⟨own_any2,?_⟩ | skip)
       iterate 1 (first | refine early_S ?_ | refine early_N ?_)
       refine early_G rfl (by rfl) (fun K hK=>?_);refine wp_store_sat (w0:=w0) (cells:=skCells y) (old:=skZ) rfl rfl rfl own rfl (by kernel_rfl) rfl ?_;intro wT hsT;refine hK _ _ ⟨own_any2,?_⟩;refine early_done ?_;clear hK K;simp only [Act.put,zqA,zqP,zqQ];go_wp2_with fail;go_quiet (fail);go_wp2_with fail;refine wp_gen (w0:=w0) ?_;intro wu hsu
       go_still_tail 8,(by kernel_rfl)
       change wpList _ _ _ _ _ wu.drew
       go_wp2_with fail;refine (hD.out _ F (hX.out _ F mb (some ⟨tg,tq9,none⟩) tc ja jc own_left)).mono ?_;rintro en w9 ⟨rfl,hs9⟩;go_wp2_with fail
       go_end0
       rw [hE2.out];exact ⟨rfl,own_left⟩
     ·have e2:decide (0<y.owns)=false:=decide_eq_false h2;rw [if_neg (fun h=>h2 h.1),e2] at hE2;clear h2;have hD:=hid (fun (w:World) (G:HP) (hs:Sat w0 w (bkP g C*G))=>stRan g n C HC.out hn hjC t (.inr (by omega)) 1 false w0 w G hs);go_wp2_with fail;refine wp_gen (w0:=w0) ?_;intro wx hsx;refine wp_region_early (fun w'=>Sat w0 w' (pts g 0 [.slice (some ⟨tg,tq9,none⟩) C.ts.length tc,.map (some mb),.int .i64 t,.bool C.ent,.slice ja C.jb.length jc]*(recsP (.slice (some ⟨ag,ao,none⟩) B.ts.length ac) B.ts*any))) [(0,true),(1,true),(2,true),(3,true),(4,true),(5,true),(6,true),(7,true),(8,true),(9,true),(10,true),(11,true),(12,true),(13,true),(14,true),(15,true),(16,false),(17,true),(18,false)] (by kernel_rfl) (by kernel_rfl) (fun _ _ _ _ h=>h) own_any2 ?_
      iterate 15 (first | refine early_S ?_ | refine early_N ?_)
      refine early_load_row (cells:=skCells y) rfl rfl rfl rfl (fun w h=>hY.out w _ h.drop) Tryz.underlying100 rfl (by kernel_rfl) ?_;simp only [Act.put,zqA,zqP,zqQ];refine early_G rfl (by rfl) (fun K hK=>?_);go_wp2_with fail
      (first | refine ⟨own_any2,?_⟩ | skip)
      iterate 1 (first | refine early_S ?_ | refine early_N ?_)
      refine early_G rfl (by rfl) (fun K hK=>?_);refine wp_store_sat (w0:=w0) (cells:=skCells y) (old:=skZ) rfl rfl rfl own rfl (by kernel_rfl) rfl ?_;intro wT hsT;refine hK _ _ ⟨own_any2,?_⟩;refine early_done ?_;clear hK K;simp only [Act.put,zqA,zqP,zqQ];go_wp2_with fail;go_quiet (fail);go_wp2_with fail;refine wp_gen (w0:=w0) ?_;intro wu hsu
      go_still_tail 8,(by kernel_rfl)
      change wpList _ _ _ _ _ wu.drew
      go_wp2_with fail;refine (hD.out _ F (hX.out _ F mb (some ⟨tg,tq9,none⟩) tc ja jc own_left)).mono ?_;rintro en w9 ⟨rfl,hs9⟩;go_wp2_with fail
      go_end0
      rw [hE2.out];exact ⟨rfl,own_left⟩
end Go.Proofs.YtkeommmigopnkaaGreatDoor
namespace Go.Sx
open Go.RowKit
end Go.Sx
namespace Go.Proofs.YtkeommmigopnkaaGreatDoor
open Go.RowKit Go.Sx Go.Au Go.Hi Go.St
theorem tw_at {p:Ev→Bool}:∀ (r:List Ev) (m:Nat),m≤r.length→(∀ i,i<m→p (evg r i)=true)→(m=r.length∨p (evg r m)=false)→r.takeWhile p=r.take m∧r.dropWhile p=r.drop m
 | [],m,hm,_,_=>by
  obtain rfl:m=0:=by simpa using hm
  exact ⟨rfl,rfl⟩
 | x::r,0,_,_,h=>by
  have:p x=false:=by
   rcases h with h | h
   ·simp at h
   ·exact h
  simp [List.takeWhile_cons,List.dropWhile_cons,this]
 | x::r,m+1,hm,ha,h=>by
  have h0:p x=true:=ha 0 (by omega);obtain ⟨h1,h2⟩:=tw_at r m (by simpa using hm) (fun i hi=>ha (i+1) (by omega)) (by
   rcases h with h | h
   ·left;simpa using h
   ·right;exact h)
  simp [List.takeWhile_cons,List.dropWhile_cons,h0,h1,h2]
def pv (l:List Ev) (k:Nat):Option Int:=if k=0 then none else some (evg l (k-1)).co
def qv (B:Bk) (l:List Ev) (k:Nat):Bk:=match pv l k with | none=>B | some c=>B.quiet (w64 (w64 ((evg l k).co-c)-1))
theorem evg_drop (l:List Ev) (k i:Nat):evg (l.drop k) i=evg l (k+i):=by unfold evg;rw [List.getD_eq_getElem?_getD,List.getD_eq_getElem?_getD,List.getElem?_drop]
theorem drop_cons {l:List Ev} {k:Nat} (h:k<l.length):l.drop k=evg l k::l.drop (k+1):=by
 rw [List.drop_eq_getElem_cons h];congr 1;unfold evg;rw [List.getD_eq_getElem?_getD,List.getElem?_eq_getElem h];rfl
theorem steps_cons (B:Bk) (co:Option Int) (e:Ev) (l:List Ev):B.steps co (e::l)=((match co with | none=>B | some c=>B.quiet (w64 (w64 (e.co-c)-1))).step (e::l.takeWhile fun x=>decide (x.co=e.co))).steps (some e.co) (l.dropWhile fun x=>decide (x.co=e.co)):=by
 rw [Bk.steps.eq_def];rfl
theorem steps_next {l:List Ev} {k e:Nat} (B:Bk) (h1:k<e) (h2:e≤l.length) (hs:∀ i,k≤i→i<e→(evg l i).co=(evg l k).co) (hn:e=l.length∨(evg l e).co≠(evg l k).co) :
  B.steps (pv l k) (l.drop k)=((qv B l k).step ((l.take e).drop k)).steps (pv l e) (l.drop e):=by
 obtain ⟨t1,t2⟩:=tw_at (p:=fun x=>decide (x.co=(evg l k).co)) (l.drop (k+1)) (e-(k+1)) (by rw [List.length_drop];omega)
  (fun i hi=>by rw [evg_drop];exact decide_eq_true (hs _ (by omega) (by omega)))
  (by
   rcases hn with hn | hn
   ·left;rw [List.length_drop];omega
   ·right;rw [evg_drop,show k+1+(e-(k+1))=e by omega];exact decide_eq_false hn)
 rw [drop_cons (show k<l.length by omega),steps_cons];rw [t1,t2,List.drop_drop,show k+1+(e-(k+1))=e by omega];have e1:(l.take e).drop k=evg l k::(l.drop (k+1)).take (e-(k+1)):=by
  rw [List.drop_take,drop_cons (show k<l.length by omega),show e-k=(e-(k+1))+1 by omega];rfl
 rw [e1];have e2:pv l e=some (evg l k).co:=by
  unfold pv;rw [if_neg (by omega),hs (e-1) (by omega) (by omega)]
 rw [e2]
 rfl
theorem chk_cons {A:Au} {e:Ev} {l:List Ev} (h:chk A (e::l)=none):keepsR A e=true∧chk (stepA A e) l=none:=by
 unfold chk nxt at h
 by_cases hk:keepsR A e=true
 ·rw [if_pos hk] at h;dsimp only at h;refine ⟨hk,?_⟩
  cases h2:chk (stepA A e) l with
  | none=>rfl
  | some x=>rw [h2] at h;cases h
 ·rw [if_neg hk] at h;cases h
def EvFit (n:Nat) (e:Ev):Prop:=EvOk e∧strayE n e=false
theorem walks_at {n:Nat} {A:Au} {B:Bk} {s r:List Ev} (h:Tie n A B) (hc:chk A (s++r)=none) (hf:∀ e∈s,EvFit n e):∀ k,k≤s.length→∃ A',Tie n A' (B.learns (s.take k))∧chk A' (s.drop k++r)=none
 | 0,_=>⟨A,by rw [List.take_zero];exact h,by rw [List.drop_zero];exact hc⟩
 | k+1,hk=>by
  obtain ⟨A',h1,h2⟩:=walks_at h hc hf k (by omega);have hk':k<s.length:=by omega
  rw [drop_cons hk'] at h2;obtain ⟨h3,h4⟩:=chk_cons h2;have hm:evg s k∈s:=by unfold evg;rw [List.getD_eq_getElem?_getD,List.getElem?_eq_getElem hk'];exact List.getElem_mem hk'
  obtain ⟨f1,f2⟩:=hf _ hm;refine ⟨stepA A' (evg s k),?_,h4⟩;rw [learns_next B hk'];exact h1.learn f1 h3 (evIn_of (keeps_ok h3) f2)
theorem walks_of {n:Nat} {A:Au} {B:Bk} {s r:List Ev} (h:Tie n A B) (hc:chk A (s++r)=none) (hf:∀ e∈s,EvFit n e):Walks n B s∧∃ A',Tie n A' (B.learns s)∧chk A' r=none:=by
 have key:=walks_at h hc hf;have kp:∀ k,k<s.length→∃ A',Tie n A' (B.learns (s.take k))∧keepsR A' (evg s k)=true:=fun k hk=>by
  obtain ⟨A',h1,h2⟩:=key k (by omega);rw [drop_cons hk] at h2;exact ⟨A',h1,(chk_cons h2).1⟩
 have hm:∀ k,k<s.length→evg s k∈s:=fun k hk=>by unfold evg;rw [List.getD_eq_getElem?_getD,List.getElem?_eq_getElem hk];exact List.getElem_mem hk
 refine ⟨⟨fun k hk=>?_,fun k hk=>?_,fun k hk h8=>?_⟩,?_⟩
 ·obtain ⟨A',h1,_⟩:=key k hk;exact h1.bk
 ·obtain ⟨A',_,h2⟩:=kp k hk;exact evIn_of (keeps_ok h2) (hf _ (hm k hk)).2
 ·obtain ⟨A',h1,h2⟩:=kp k hk;exact h1.ends h2 (evIn_of (keeps_ok h2) (hf _ (hm k hk)).2) h8
 ·obtain ⟨A',h1,h2⟩:=key s.length (Nat.le_refl _);rw [List.take_length] at h1;rw [List.drop_length,List.nil_append] at h2;exact ⟨A',h1,h2⟩
theorem tie_next {n:Nat} {A:Au} {B:Bk} {l:List Ev} {k e:Nat} (h:Tie n A B) (hc:chk A (l.drop k)=none) (hf:∀ e∈l,EvFit n e) (h1:k≤e) (h2:e≤l.length) :
  Walks n (qv B l k) ((l.take e).drop k)∧Tie n A (qv B l k)∧∃ A',Tie n A' ((qv B l k).step ((l.take e).drop k))∧chk A' (l.drop e)=none:=by
 have hq:Tie n A (qv B l k):=by unfold qv;split;exact h;exact h.quiet _
 have e1:l.drop k=(l.take e).drop k++l.drop e:=by
  have:l.drop k=((l.take e)++l.drop e).drop k:=by rw [List.take_append_drop]
  rw [this,List.drop_append_of_le_length (by rw [List.length_take];omega)]
 rw [e1] at hc;obtain ⟨w1,A',w2,w3⟩:=walks_of hq hc (fun x hx=>hf x (List.mem_of_mem_take (List.mem_of_mem_drop hx)));exact ⟨w1,hq,A',w2.close _ _,w3⟩
end Go.Proofs.YtkeommmigopnkaaGreatDoor
