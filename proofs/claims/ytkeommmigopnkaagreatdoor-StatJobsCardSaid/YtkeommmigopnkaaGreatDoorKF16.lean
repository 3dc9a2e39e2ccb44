/-
  Parts of the proof: StM StN.
-/
import Derived.Test.YtkeommmigopnkaaGreatDoorKF6
import Derived.Test.YtkeommmigopnkaaGreatDoorKF12
import Derived.Test.YtkeommmigopnkaaGreatDoorKF15
set_option linter.unusedVariables false
set_option linter.unusedSimpArgs false
set_option maxHeartbeats 32000000
set_option maxRecDepth 100000
namespace Go.Proofs.YtkeommmigopnkaaGreatDoor
open Go.RowKit Go.Sx Go.Au Go.Hi Go.St Go.Dl Go.Lk Go.Rq
def tsk (t:Tc):Sk:=⟨t.lev,true,false,0,false,0,0,0,0,0,0,0,t.dl⟩
def tks0 (c:Cf):List Sk:=c.ts.map tsk
instance (a b:Int):Cells encSk [.int .i64 a,.bool true,.bool false,.int .u32 0,.bool false,.int .i64 0,.int .i64 0,.int .i64 0,.int .u64 0,.int .u64 0,.int .u64 0,.int .i64 0,.int .i64 b] [⟨a,true,false,0,false,0,0,0,0,0,0,0,b⟩]:=⟨rfl⟩
abbrev tvZ:List Value:=[.int .i64 0,.int .i64 0,.int .i64 0,.int .i64 0,.int .i64 0,.slice none 0 0]
theorem book_next {n:Nat} {ts:List Sk} {A:Au} {B:Bk} {l:List Ev} {k e:Nat} (h:Tie n A B∧chk A (l.drop k)=none∧Num k B∧(bk0 ts).steps none l=B.steps (pv l k) (l.drop k)) (hf:∀ e∈l,EvFit n e) (h1:k<e) (h2:e≤l.length) (h3:∀ i,k≤i→i<e→(evg l i).co=(evg l k).co) (h4:e=l.length∨(evg l e).co≠(evg l k).co) :
  BOk n (qv B l k)∧Num k (qv B l k)∧Walks n (qv B l k) ((l.drop k).take (e-k))∧∃ A',Tie n A' ((qv B l k).step ((l.drop k).take (e-k)))∧chk A' (l.drop e)=none∧Num e ((qv B l k).step ((l.drop k).take (e-k)))∧(bk0 ts).steps none l=((qv B l k).step ((l.drop k).take (e-k))).steps (pv l e) (l.drop e):=by
 obtain ⟨t1,t2,t3,t4⟩:=h;obtain ⟨w1,w2,A',w3,w4⟩:=tie_next t1 t2 hf (Nat.le_of_lt h1) h2;rw [List.drop_take] at w1 w3;have hq:Num k (qv B l k):=by unfold qv;split;exact t3;exact t3.quiet _
 refine ⟨w2.bk,hq,w1,A',w3,w4,?_,?_⟩
 ·have:=hq.step ((l.drop k).take (e-k));refine this.up ?_;rw [List.length_take,List.length_drop];omega
 ·rw [t4,steps_next B h1 h2 h3 h4,List.drop_take]
theorem seg_rd {w:World} {eg eo uc:Nat} {l:List Ev} {k e:Nat} (h:RdR w (.slice (some ⟨eg,eo,none⟩) l.length uc) l) (h1:k≤e) (h2:e≤l.length):RdR w (.slice (some ⟨eg,eo+k*6,none⟩) (e-k) (uc-k)) ((l.drop k).take (e-k)):=by
 have q:=h.caps;have h3:=RdR.cut h k (e-k) (uc-k) (by omega) (by omega) (by omega);rw [Option.map_some,Addr.add_lit] at h3;exact h3
theorem jg_self {J:List Jb} {k:Nat} (h:k<J.length):J.set k (jg J k)=J:=by
 have:jg J k=J[k]:=by unfold jg;rw [List.getD_eq_getElem?_getD,List.getElem?_eq_getElem h];rfl
 rw [this,List.set_getElem_self]
theorem bnd_next (ts:List Sk) (lv:Int) (q:Nat) (x:Int):bnd ts lv (q+1) x=if lv<(sg ts q).lev then w64 (bnd ts lv q x+(sg ts q).lng) else bnd ts lv q x:=by
 unfold bnd;rw [List.range_succ,List.foldl_append];rfl
theorem jg_mid {f:Jb→Jb} {L:List Jb} {k:Nat} (h:k<L.length):jg ((L.take k).map f++L.drop k) k=jg L k:=by
 unfold jg;rw [List.getD_eq_getElem?_getD,List.getD_eq_getElem?_getD,List.getElem?_append_right (by simp;omega),List.getElem?_drop]
 congr 2
 rw [List.length_map,List.length_take];omega
theorem fin_next (ts:List Sk) (last:Int) {L:List Jb} {k:Nat} (h:k<L.length):((L.take k).map (finJ ts last)++L.drop k).set k (finJ ts last (jg L k))=(L.take (k+1)).map (finJ ts last)++L.drop (k+1):=by
 have e:L.drop k=L[k]::L.drop (k+1):=List.drop_eq_getElem_cons h;have e2:jg L k=L[k]:=by unfold jg;rw [List.getD_eq_getElem?_getD,List.getElem?_eq_getElem h];rfl
 rw [List.set_append_right _ _ (by simp;omega),List.length_map,List.length_take,Nat.min_eq_left (by omega),Nat.sub_self,e,List.set_cons_zero,e2,List.take_add_one,List.getElem?_eq_getElem h,List.map_append,List.append_assoc]
 rfl
theorem fin_at {ts:List Sk} {last:Int} {x:Sk} {t:Nat} {num rel fi:Int} {ended missed:Bool} {lower bound:Int} {tidy:Bool} (h:x=sg ts t):finJ ts last ⟨(t:Int),num,rel,fi,ended,missed,lower,bound,tidy⟩=(if ended=true then ⟨(t:Int),num,rel,fi,ended,missed,lower,bnd ts x.lev ts.length bound,tidy⟩ else ⟨(t:Int),num,rel,fi,ended,decide (0<x.dl) && decide (x.dl<w64 (last-rel)),lower,bnd ts x.lev ts.length bound,false⟩):=by
 subst h;unfold finJ;dsimp only;rw [Int.toNat_natCast]
 cases ended<;>rfl
theorem lastCo_at {l:List Ev} (h:0<l.length):lastCo l=(evg l (l.length-1)).co:=by
 unfold lastCo evg;rw [List.getLast?_eq_getElem?,List.getD_eq_getElem?_getD,List.getElem?_eq_getElem (show l.length-1<l.length by omega)];rfl
theorem stRead (v u:Value) (c:Cf) (l:List Ev) (hn:c.ts.length≤64) (hdl:∀ t∈c.ts,0≤t.dl∧t.dl≤1000000000000) (hl:l.length<900000) (hk:chk au0 l=none) (hf:∀ e∈l,EvFit c.ts.length e) (w0 w:World) (F:HP) (hr:RdCf w0 v c) (hst:StaysE w0 F u l) (hs:Sat w0 w F) :
  Calls Tryz.prog 20 #[v,u] w (fun e w'=>∃ g,e=.returned (.pointer (some ⟨g,0,none⟩))∧Sat w0 w' (bkP g (Bk.read (tks0 c) l)*F)):=by
 obtain ⟨tv,lv,sv,qv',mv,rfl,⟨T,hT,hTn,hTi⟩,_,_,_,_⟩:=hr.out;clear hr;obtain ⟨ua,uc,rfl⟩:∃ ua uc,u=.slice ua l.length uc:=by
  obtain ⟨a,cap,b,off,e,_⟩:=hst w hs;exact ⟨a,cap,e⟩
 obtain ⟨ca,cc,rfl⟩:∃ ca cc,tv=.slice ca T.length cc:=by
  obtain ⟨a,cap,b,off,e,_⟩:=hT;exact ⟨a,cap,e⟩
 rw [hTn] at hT;rw [hTn];have Hst:=hid hst;have HT:=hid hT;have HTi:=hid (And.intro hTn hTi);have Hk:=hid (And.intro hk (And.intro hf hdl));clear hst hT hTn hTi hk hf hdl;have hmk:∀ w:World,(Instr.makeMap 74 none).run Tryz.prog w=.ok (.map (some w.heap.size)) (w.alloc (.map #[] 0)):=fun w=>run_mapNew _
 go_enter Tryz.func20,Tryz.ntmps20
 go_wp2_with fail;clear hmk;refine wp_gen (w0:=w0) ?_;intro wx hsx;clear hs;generalize w.heap.size+1+1=gb at *;generalize w.heap.size+1=mb at *
 go_loopw [21] (fun i wr=>∃ (k:Nat) (ta:Option Addr) (tc:Nat) (ts:List Sk),k≤c.ts.length∧i=.int .i64 k∧ts=(c.ts.take k).map tsk∧Sat w0 wr (pts gb 0 [.slice ta ts.length tc,.map (some mb),.int .i64 255,.bool false,.slice none 0 0]*(recsP (.slice ta ts.length tc) ts*(mpP mb (fun _=>none)*(F*any))))) (fun i _=>c.ts.length-(intOf i).toNat)
 case atStart =>
  refine ⟨0,none,0,[],Nat.zero_le _,rfl,rfl,?_⟩;have h1:Sat w0 wx (pts gb 0 [.slice none 0 0,.map (some mb),.int .i64 255,.bool false,.slice none 0 0]*(mpP mb (fun _=>none)*(F*any))):=own_left;exact h1.perm (by show _=pts gb 0 _*(recsP (.slice none 0 0) []*_);rw [recsP_nil,emp_star];rfl)
 case round =>
  obtain ⟨k,ta,tc,ts,hk,rfl,hts,hsr⟩:=hrel;clear hsx;have hl2:ts.length≤64:=by rw [hts,List.length_map,List.length_take];omega
  by_cases hlt:k<c.ts.length
  ·have d1:decide (k<c.ts.length)=true:=decide_eq_true hlt;have i1:(k:Int)<(c.ts.length:Int):=by omega
   have hTw:RdR wr (.slice ca c.ts.length cc) T:=HT.out.later hsr;obtain ⟨eg,eo,rfl,hrow0⟩:=rdR_at (k:=k) hTw (by rw [HTi.out.1];exact hlt);have hi:=HTi.out.2 k hlt;have hnx:Hid (((c.ts.take (k+1)).map tsk)=ts++[⟨(c.ts.getD k tc0).lev,true,false,0,false,0,0,0,0,0,0,0,(c.ts.getD k tc0).dl⟩]):=by
    unfold Hid;rw [hts,List.take_add_one,List.getElem?_eq_getElem hlt,List.map_append];rw [List.getD_eq_getElem?_getD,List.getElem?_eq_getElem hlt];rfl
   rw [← hi.lev,← hi.dl] at hnx;have hrow:wr.rangeAt eg (eo+k*6) (encTv.enc (T.getD k tv0)):=hrow0;clear hrow0 hi hTw;generalize T.getD k tv0=x at hrow hnx;obtain ⟨lev,off,per,dl,mem,xa,xn,xc⟩:=x;have hrow:wr.rangeAt eg (eo+k*6) [.int .i64 lev,.int .i64 off,.int .i64 per,.int .i64 dl,.int .i64 mem,.slice xa xn xc]:=hrow;dsimp only at hnx;have HTS:=hid hts;clear hts;go_wp2_with (first | (refine wpList_load_mid rfl _ _ rfl _ _ rfl _ _ hrow Tryz.underlying97 rfl (by kernel_rfl) ?_) | (refine wpList_store_sat (w0:=w0) (cells:=[.int .i64 lev,.int .i64 off,.int .i64 per,.int .i64 dl,.int .i64 mem,.slice xa xn xc]) (old:=tvZ) rfl rfl rfl rfl own rfl (by kernel_rfl) rfl ?_;intro wS hsS));clear hsr hrow;generalize wr.heap.size=xb at *;refine wp_gen (w0:=w0) ?_;intro wy hsy;clear hsS;refine wp_region_till (fun w'=>Sat w0 w' (pts gb 0 [.slice ta ts.length tc,.map (some mb),.int .i64 255,.bool false,.slice none 0 0]*(pts xb 0 [.int .i64 lev,.int .i64 off,.int .i64 per,.int .i64 dl,.int .i64 mem,.slice xa xn xc]*any))) 14 [(0,0),(1,0),(2,0),(3,0),(4,1),(5,0),(6,1),(7,0),(8,1),(9,0),(10,2),(11,2),(12,0),(13,0),(14,2)] (by kernel_rfl) (by kernel_rfl) (fun _ _ _ _ h=>h) own_any2 ?_
   iterate 10 (first | refine plan_pS ?_ | refine plan_rS ?_ | refine plan_pN ?_ | refine plan_rN ?_)
   refine plan_G rfl (by rfl) (fun K hK=>?_);go_wp2_with fail;refine ⟨fun _=>own_any2,?_⟩;refine plan_G rfl (by rfl) (fun K hK=>?_);refine wp_append_recs rfl rfl rfl (by omega) ?_;intro ap ac aL aw ahL ah1 ah2 ahs _;refine hK _ _ ⟨fun _=>own_any2,?_⟩;clear hK K;simp only [Act.put,zqA,zqP,zqQ]
   iterate 2 (first | refine plan_pS ?_ | refine plan_rS ?_ | refine plan_pN ?_ | refine plan_rN ?_)
   refine plan_G rfl (by rfl) (fun K hK=>?_);go_wp2_with fail;refine ⟨fun h=>absurd rfl h,plan_done ?_⟩;go_wp2_with fail;go_roundw
   case rel =>
    exact ⟨k+1,ap,ac,aL,by omega,by go_num,ahL.out.trans hnx.out.symm,own_left⟩
   case measure=>simp [intOf];omega
  ·have d1:decide (k<c.ts.length)=false:=decide_eq_false hlt;obtain rfl:k=c.ts.length:=by omega
   rw [List.take_length] at hts;clear hlt hk;go_wp2_with fail;have hts':ts=tks0 c:=hts;have hT0:Tie c.ts.length au0 (bk0 ts):=tie0 (by rw [hts',tks0,List.length_map]) hn (fun s hs=>by
    rw [hts'] at hs;obtain ⟨q,_,rfl⟩:=List.mem_map.1 hs
    rfl)
   have hN0:Num 0 (bk0 ts):=Num.mk' (fun s hs=>by
    have hs:s∈ts:=hs;rw [hts'] at hs;obtain ⟨q,hq,rfl⟩:=List.mem_map.1 hs;exact ⟨⟨Int.le_refl 0,Int.le_refl 0⟩,⟨Int.le_refl 0,Int.le_refl 0⟩,⟨Int.le_refl 0,Int.le_refl 0⟩,Hk.out.2.2 q hq⟩) (by simp [bk0])
   have HTS:=hid hts';have hs0:Sat w0 wr (bkP gb (bk0 ts)*(F*any)):=by
    refine bk_in2 (mb:=mb) (ta:=ta) (ja:=none) (tc:=tc) (jc:=0) ts (fun _=>none) 255 false [] rfl rfl rfl rfl rfl ?_;exact hsr.perm (by show _=pts gb 0 _*(_*(_*(recsP (.slice none 0 0) []*_)));rw [recsP_nil,emp_star];rfl)
   have H0:=hid (And.intro hT0 (And.intro Hk.out.1 hN0));clear hsr hts hts' hT0 hN0 hn;refine wp_gen (w0:=w0) ?_;intro wa hsa;clear hs0
   go_loopw [8] (fun s8 wr=>∃ (at_:Nat) (A:Au) (B:Bk),at_≤l.length∧s8=.int .i64 at_∧Hid (Tie c.ts.length A B∧chk A (l.drop at_)=none∧Num at_ B∧(bk0 ts).steps none l=B.steps (pv l at_) (l.drop at_))∧Sat w0 wr (bkP gb B*(F*any))) (fun s8 _=>l.length-(intOf s8).toNat)
   case atStart=>exact ⟨0,au0,bk0 ts,Nat.zero_le _,rfl,⟨H0.out.1,H0.out.2.1,H0.out.2.2,rfl⟩,own_left⟩
   case round =>
    obtain ⟨at_,A,B,hat,rfl,HB,hsb⟩:=hrel;clear hsa
    by_cases hlt:at_<l.length
    ·have d1:decide (at_<l.length)=true:=decide_eq_true hlt;have i1:(at_:Int)<(l.length:Int):=by omega
     obtain ⟨eg,eo,rfl,_⟩:=rdR_at (k:=at_) (Hst.out wr own_left) hlt;have huc:=(Hst.out wr own_left).caps.2.1;have hun:(uc=at_)=False:=eq_false (by omega);have hev:=hid (fun (w:World) (G:HP) (h:Sat w0 w (G*(F*any))) (k:Nat) (hk:k<l.length)=>(show w.cell? ⟨eg,eo+k*6+2,none⟩=some (.int .u64 (evg l k).co) by
      obtain ⟨g2,o2,e,hrow⟩:=rdR_at (k:=k) (Hst.out w own_left) hk;simp only [Option.some.injEq,Addr.mk.injEq] at e;obtain ⟨rfl,rfl,_⟩:=e;exact hrow 2 _ rfl))
     have hP:=hid (fun (e:Nat) (h1:at_<e) (h2:e≤l.length) (h3:∀ i,at_≤i→i<e→(evg l i).co=(evg l at_).co) (h4:e=l.length∨(evg l e).co≠(evg l at_).co)=>book_next (ts:=ts) HB.out Hk.out.2.1 h1 h2 h3 h4);go_wp2_with fail;refine wp_gen (w0:=w0) ?_;intro wb hsc;clear hsb
     go_loopw [9] (fun s9 wr=>∃ e:Nat,at_≤e∧e≤l.length∧s9=.int .i64 e∧Hid (∀ i,at_≤i→i<e→(evg l i).co=(evg l at_).co)∧Sat w0 wr (bkP gb B*(F*any))) (fun s9 _=>l.length-(intOf s9).toNat)
     case atStart=>exact ⟨at_,Nat.le_refl _,hat,rfl,fun i h1 h2=>by omega,own_left⟩
     case round =>
      obtain ⟨e,he1,he2,rfl,he3,hsd⟩:=hrel;clear hsc;have hca:=hev.out _ _ hsd at_ hlt
      by_cases hle:e<l.length
      ·have d2:decide (e<l.length)=true:=decide_eq_true hle;have i2:(e:Int)<(l.length:Int):=by omega
       have hce:=hev.out _ _ hsd e hle;obtain ⟨xe,hxe⟩:∃ xe,xe=(evg l e).co:=⟨_,rfl⟩;obtain ⟨xa,hxa⟩:∃ xa,xa=(evg l at_).co:=⟨_,rfl⟩;rw [← hxe] at hce;rw [← hxa] at hca
       by_cases hq:xe=xa
       ·have e2:(xe==xa)=true:=by simp [hq]
        have HQ:=hid (hxe.symm.trans (hq.trans hxa));clear hxe hxa hq;go_wp2_with fail;go_quiet (fail);go_wp2_with fail;go_roundw
        case rel =>
         refine ⟨e+1,by omega,by omega,by go_num,fun i h1 h2=>?_,own_left⟩
         by_cases h3:i=e
         ·subst h3;exact HQ.out
         ·exact he3.out i h1 (by omega)
        case measure=>simp [intOf];omega
       ·have e2:(xe==xa)=false:=by simp [hq]
        have hne:=hid (show e=l.length∨(evg l e).co≠(evg l at_).co from .inr (by rw [← hxe,← hxa];exact hq));have hlt2:at_<e:=by
         rcases Nat.lt_or_ge at_ e with h | h
         ·exact h
         ·exact absurd (by rw [hxe,hxa,show e=at_ by omega]) hq
        clear hxe hxa hq
        by_cases h0:at_=0
        ·have d0:decide (0<at_)=false:=decide_eq_false (by omega);have hqv:qv B l at_=B:=by unfold qv pv;rw [if_pos h0]
         obtain ⟨hB1,hN1,hW1,A2,hA2⟩:=hP.out e hlt2 he2 he3.out hne.out;have hS:=hid (fun (w:World) (hs:Sat w0 w (bkP gb (qv B l at_)*(F*any)))=>stStep gb c.ts.length (qv B l at_) hB1 HB.out.1.n64 at_ hN1 ((l.drop at_).take (e-at_)) (by rw [List.length_take,List.length_drop];omega) hW1 (.slice (some ⟨eg,eo+at_*6,none⟩) (e-at_) (uc-at_)) w0 w (F*any) (fun w h=>seg_rd (Hst.out w own_left) he1 he2) hs);rw [hqv] at hS;have hA:=hid hA2;rw [hqv] at hA;clear hB1 hN1 hW1 hA2 hqv h0;go_wp2_with fail;go_quiet (fail);go_wp2_with fail;refine (hS.out _ own_left).mono ?_;rintro en w5 ⟨rfl,hs5⟩;go_wp2_with fail;go_roundw
         case rel=>exact ⟨e,A2,_,he2,rfl,hA.out,own_left⟩
         case measure=>simp [intOf];omega
        ·have d0:decide (0<at_)=true:=decide_eq_true (by omega);obtain ⟨xp,hxp⟩:∃ xp,xp=(evg l (at_-1)).co:=⟨_,rfl⟩;obtain ⟨xb,hxb⟩:∃ xb,xb=(evg l at_).co:=⟨_,rfl⟩;obtain ⟨y1,hy1⟩:∃ y1,y1=w64 (xb-xp):=⟨_,rfl⟩;obtain ⟨y2,hy2⟩:∃ y2,y2=w64 (y1-1):=⟨_,rfl⟩;have v1:IntKind.u64.wrap (xb-xp)=y1:=by rw [IntKind.wrap_u64,hy1]
         have v2:IntKind.u64.wrap (y1-1)=y2:=by rw [IntKind.wrap_u64,hy2]
         have v3:IntKind.i64.wrap ((at_:Int)-1)=((at_-1:Nat):Int):=by rw [IntKind.wrap_i64];omega
         have d3:decide (at_-1<l.length)=true:=decide_eq_true (by omega);have i3:((at_-1:Nat):Int)<(l.length:Int):=by omega
         have hqv:qv B l at_=B.quiet y2:=by unfold qv pv;rw [if_neg h0];dsimp only;rw [← hxp,← hxb,← hy1,← hy2]
         have hQ:=hid (fun (w:World) (hs:Sat w0 w (bkP gb B*(F*any)))=>stQuiet gb c.ts.length B HB.out.1.bk HB.out.1.n64 (by have:=HB.out.2.2.1.jobs;omega) y2 w0 w (F*any) hs);obtain ⟨hB1,hN1,hW1,A2,hA2⟩:=hP.out e hlt2 he2 he3.out hne.out;have hS:=hid (fun (w:World) (hs:Sat w0 w (bkP gb (qv B l at_)*(F*any)))=>stStep gb c.ts.length (qv B l at_) hB1 HB.out.1.n64 at_ hN1 ((l.drop at_).take (e-at_)) (by rw [List.length_take,List.length_drop];omega) hW1 (.slice (some ⟨eg,eo+at_*6,none⟩) (e-at_) (uc-at_)) w0 w (F*any) (fun w h=>seg_rd (Hst.out w own_left) he1 he2) hs);rw [hqv] at hS;have hA:=hid hA2;rw [hqv] at hA;have HX:=hid (And.intro hxp hxb);clear hB1 hN1 hW1 hA2 hqv h0 hxp hxb hy1 hy2;go_wp2_with fail;go_quiet (fail);go_wp2_with fail;refine wp_gen (w0:=w0) ?_;intro wt hsT;have hc1:=hev.out _ _ (own_left:Sat w0 wt (bkP gb B*(F*any))) at_ hlt;have hc2:=hev.out _ _ (own_left:Sat w0 wt (bkP gb B*(F*any))) (at_-1) (by omega);rw [← HX.out.2] at hc1;rw [← HX.out.1] at hc2
         go_still_tail 14,(by kernel_rfl)
         change wpList _ _ _ _ _ wt.drew
         go_wp2_with fail;refine (hQ.out _ own_left).mono ?_;rintro en w4 ⟨rfl,hs4⟩;clear hc1 hc2;go_wp2_with fail;refine (hS.out _ own_left).mono ?_;rintro en w5 ⟨rfl,hs5⟩;go_wp2_with fail;go_roundw
         case rel=>exact ⟨e,A2,_,he2,rfl,hA.out,own_left⟩
         case measure=>simp [intOf];omega
      ·have d2:decide (e<l.length)=false:=decide_eq_false hle;have hne:=hid (show e=l.length∨(evg l e).co≠(evg l at_).co from .inl (by omega));have hlt2:at_<e:=by omega
       by_cases h0:at_=0
       ·have d0:decide (0<at_)=false:=decide_eq_false (by omega);have hqv:qv B l at_=B:=by unfold qv pv;rw [if_pos h0]
        obtain ⟨hB1,hN1,hW1,A2,hA2⟩:=hP.out e hlt2 he2 he3.out hne.out;have hS:=hid (fun (w:World) (hs:Sat w0 w (bkP gb (qv B l at_)*(F*any)))=>stStep gb c.ts.length (qv B l at_) hB1 HB.out.1.n64 at_ hN1 ((l.drop at_).take (e-at_)) (by rw [List.length_take,List.length_drop];omega) hW1 (.slice (some ⟨eg,eo+at_*6,none⟩) (e-at_) (uc-at_)) w0 w (F*any) (fun w h=>seg_rd (Hst.out w own_left) he1 he2) hs);rw [hqv] at hS;have hA:=hid hA2;rw [hqv] at hA;clear hB1 hN1 hW1 hA2 hqv h0;go_wp2_with fail;go_quiet (fail);go_wp2_with fail;refine (hS.out _ own_left).mono ?_;rintro en w5 ⟨rfl,hs5⟩;go_wp2_with fail;go_roundw
        case rel=>exact ⟨e,A2,_,he2,rfl,hA.out,own_left⟩
        case measure=>simp [intOf];omega
       ·have d0:decide (0<at_)=true:=decide_eq_true (by omega);obtain ⟨xp,hxp⟩:∃ xp,xp=(evg l (at_-1)).co:=⟨_,rfl⟩;obtain ⟨xb,hxb⟩:∃ xb,xb=(evg l at_).co:=⟨_,rfl⟩;obtain ⟨y1,hy1⟩:∃ y1,y1=w64 (xb-xp):=⟨_,rfl⟩;obtain ⟨y2,hy2⟩:∃ y2,y2=w64 (y1-1):=⟨_,rfl⟩;have v1:IntKind.u64.wrap (xb-xp)=y1:=by rw [IntKind.wrap_u64,hy1]
        have v2:IntKind.u64.wrap (y1-1)=y2:=by rw [IntKind.wrap_u64,hy2]
        have v3:IntKind.i64.wrap ((at_:Int)-1)=((at_-1:Nat):Int):=by rw [IntKind.wrap_i64];omega
        have d3:decide (at_-1<l.length)=true:=decide_eq_true (by omega);have i3:((at_-1:Nat):Int)<(l.length:Int):=by omega
        have hqv:qv B l at_=B.quiet y2:=by unfold qv pv;rw [if_neg h0];dsimp only;rw [← hxp,← hxb,← hy1,← hy2]
        have hQ:=hid (fun (w:World) (hs:Sat w0 w (bkP gb B*(F*any)))=>stQuiet gb c.ts.length B HB.out.1.bk HB.out.1.n64 (by have:=HB.out.2.2.1.jobs;omega) y2 w0 w (F*any) hs);obtain ⟨hB1,hN1,hW1,A2,hA2⟩:=hP.out e hlt2 he2 he3.out hne.out;have hS:=hid (fun (w:World) (hs:Sat w0 w (bkP gb (qv B l at_)*(F*any)))=>stStep gb c.ts.length (qv B l at_) hB1 HB.out.1.n64 at_ hN1 ((l.drop at_).take (e-at_)) (by rw [List.length_take,List.length_drop];omega) hW1 (.slice (some ⟨eg,eo+at_*6,none⟩) (e-at_) (uc-at_)) w0 w (F*any) (fun w h=>seg_rd (Hst.out w own_left) he1 he2) hs);rw [hqv] at hS;have hA:=hid hA2;rw [hqv] at hA;have HX:=hid (And.intro hxp hxb);clear hB1 hN1 hW1 hA2 hqv h0 hxp hxb hy1 hy2;go_wp2_with fail;go_quiet (fail);go_wp2_with fail;refine wp_gen (w0:=w0) ?_;intro wt hsT;have hc1:=hev.out _ _ (own_left:Sat w0 wt (bkP gb B*(F*any))) at_ hlt;have hc2:=hev.out _ _ (own_left:Sat w0 wt (bkP gb B*(F*any))) (at_-1) (by omega);rw [← HX.out.2] at hc1;rw [← HX.out.1] at hc2
        go_still_tail 14,(by kernel_rfl)
        change wpList _ _ _ _ _ wt.drew
        go_wp2_with fail;refine (hQ.out _ own_left).mono ?_;rintro en w4 ⟨rfl,hs4⟩;clear hc1 hc2;go_wp2_with fail;refine (hS.out _ own_left).mono ?_;rintro en w5 ⟨rfl,hs5⟩;go_wp2_with fail;go_roundw
        case rel=>exact ⟨e,A2,_,he2,rfl,hA.out,own_left⟩
        case measure=>simp [intOf];omega
    ·have d1:decide (at_<l.length)=false:=decide_eq_false hlt;obtain rfl:at_=l.length:=by omega
     have hBf:(bk0 ts).steps none l=B:=by rw [HB.out.2.2.2,List.drop_length,Bk.steps.eq_def]
     have hE:Hid (Bk.read (tks0 c) l=B.wJ (B.jb.map (finJ B.ts (lastCo l)))):=by unfold Hid Bk.read;rw [← HTS.out,hBf]
     have hjl:B.jb.length≤l.length:=by have:=HB.out.2.2.1.jobs;omega
     have hBk:=hid HB.out.1.bk;have hBN:=hid HB.out.2.2.1;have hn64:=HB.out.1.n64;have hts2:B.ts.length≤64:=by rw [hBk.out.len];exact hn64
     clear hlt hBf HB H0 HTS hat;obtain ⟨mb,ta2,tc,ja,jc,hs6⟩:=bk_out hsb;clear hsb;go_wp2_with fail;refine wp_gen (w0:=w0) ?_;intro wc hsc;clear hs6
     go_loopw [93] (fun i wr=>∃ (k:Nat) (J:List Jb),k≤B.jb.length∧i=.int .i64 k∧J=(B.jb.take k).map (finJ B.ts (lastCo l))++B.jb.drop k∧Sat w0 wr (pts gb 0 [.slice ta2 B.ts.length tc,.map (some mb),.int .i64 B.run,.bool B.ent,.slice ja B.jb.length jc]*(recsP (.slice ta2 B.ts.length tc) B.ts*(mpP mb B.ow*(recsP (.slice ja B.jb.length jc) J*(F*any)))))) (fun i _=>B.jb.length-(intOf i).toNat)
     case atStart=>exact ⟨0,B.jb,Nat.zero_le _,rfl,rfl,own_left⟩
     case round =>
      obtain ⟨k,J,hk,rfl,hJ,hsr⟩:=hrel;clear hsc
      by_cases hlk:k<B.jb.length
      ·have d2:decide (k<B.jb.length)=true:=decide_eq_true hlk;have i2:(k:Int)<(B.jb.length:Int):=by omega
       have hJl:J.length=B.jb.length:=by rw [hJ,List.length_append,List.length_map,List.length_take,List.length_drop];omega
       have hJk:jg J k=jg B.jb k:=by rw [hJ];exact jg_mid hlk
       haveI:Lt k J.length:=⟨by omega⟩;obtain ⟨jg0,jo,rfl⟩:=recs_at (hsr.pull (Q:=recsP (.slice ja B.jb.length jc) J)) (by omega);have htr:=hBk.out.task _ (jg_mem hlk);have HN:=hid (fun (y1:Jb) (h:y1=finJ B.ts (lastCo l) (jg B.jb k))=>(show J.set k y1=(B.jb.take (k+1)).map (finJ B.ts (lastCo l))++B.jb.drop (k+1) by rw [hJ,h];exact fin_next _ _ hlk));obtain ⟨y,hy⟩:∃ y,y=jg J k:=⟨_,rfl⟩;haveI:El J k y:=⟨hy.symm⟩;rw [← hJk,← hy] at htr HN;have HSf:Hid (J.set k y=J):=by unfold Hid;rw [hy];exact jg_self (by omega)
       clear hJ hJl hJk hy;obtain ⟨task,num,rel,fi,ended,missed,lower,bound,tidy⟩:=y;dsimp only at htr;obtain ⟨t,ht⟩:∃ t:Nat,task=t:=⟨task.toNat,by omega⟩;subst ht;have hl4:t<B.ts.length:=by rw [hBk.out.len];omega
       have d4:decide (t<B.ts.length)=true:=decide_eq_true hl4;have i4:(t:Int)<(B.ts.length:Int):=by omega
       haveI:Lt t B.ts.length:=⟨hl4⟩;obtain ⟨tg,tq,rfl⟩:=recs_at (hsr.pull (Q:=recsP (.slice ta2 B.ts.length tc) B.ts)) (by omega);obtain ⟨x,hx⟩:∃ x,x=sg B.ts t:=⟨_,rfl⟩;have hdl4:0≤x.dl∧x.dl≤1000000000000:=by rw [hx];exact (hBN.out.t t).2.2.2
       have hY0:=hid (fun (w:World) (G:HP) (h:Sat w0 w (recsP (.slice (some ⟨tg,tq,none⟩) B.ts.length tc) B.ts*G))=>(show w.rangeAt tg (tq+t*13) (skCells x) from recs_row h hl4 (by rw [hx];rfl)));have HN:=hid (fun (y1:Jb) (h:y1=_)=>HN.out y1 (h.trans (fin_at (ts:=B.ts) (last:=lastCo l) (x:=x) (t:=t) hx).symm));clear htr hx;obtain ⟨lev,idle,rdy,on,gone,owns,secs,opn,len,lng,ran,tak,dl⟩:=x;dsimp only at hdl4 HN;have hY:Hid (∀ (w:World) (G:HP),Sat w0 w (recsP (.slice (some ⟨tg,tq,none⟩) B.ts.length tc) B.ts*G)→w.rangeAt tg (tq+t*13) [.int .i64 lev,.bool idle,.bool rdy,.int .u32 on,.bool gone,.int .i64 owns,.int .i64 secs,.int .i64 opn,.int .u64 len,.int .u64 lng,.int .u64 ran,.int .i64 tak,.int .i64 dl]):=hY0;clear hY0;have u6:IntKind.u64.wrap dl=dl:=by rw [IntKind.wrap_u64];omega
       cases ended
       case true =>
        have HM:=hid (fun (b:Int) (h:b=bnd B.ts lev B.ts.length bound)=>HN.out ⟨t,num,rel,fi,true,missed,lower,b,tidy⟩ (by rw [h];rfl));clear hdl4;go_wp2_with fail;refine wp_gen (w0:=w0) ?_;intro wx4 hsx4;refine wp_region_early (fun w'=>Sat w0 w' (pts gb 0 [.slice (some ⟨tg,tq,none⟩) B.ts.length tc,.map (some mb),.int .i64 B.run,.bool B.ent,.slice (some ⟨jg0,jo,none⟩) B.jb.length jc]*(recsP (.slice (some ⟨tg,tq,none⟩) B.ts.length tc) B.ts*(recsP (.slice (some ⟨jg0,jo,none⟩) B.jb.length jc) (J)*any)))) [(0,true),(1,true),(2,true),(3,true),(4,true),(5,true),(6,true),(7,true),(8,true),(9,true),(10,false),(11,false)] (by kernel_rfl) (by kernel_rfl) (fun _ _ _ _ h=>h) own_any3 ?_
        iterate 9 (first | refine early_S ?_ | refine early_N ?_)
        refine early_load_row (cells:=[.int .i64 lev,.bool idle,.bool rdy,.int .u32 on,.bool gone,.int .i64 owns,.int .i64 secs,.int .i64 opn,.int .u64 len,.int .u64 lng,.int .u64 ran,.int .i64 tak,.int .i64 dl]) rfl rfl rfl rfl (fun w h=>hY.out w _ h.drop) Tryz.underlying100 rfl (by kernel_rfl) ?_;simp only [Act.put,zqA,zqP,zqQ];refine early_G rfl (by rfl) (fun K hK=>?_);go_wp2_with fail
        (first | refine ⟨own_any3,?_⟩ | skip)
        refine early_G rfl (by rfl) (fun K hK=>?_);refine wp_store_sat (w0:=w0) (cells:=[.int .i64 lev,.bool idle,.bool rdy,.int .u32 on,.bool gone,.int .i64 owns,.int .i64 secs,.int .i64 opn,.int .u64 len,.int .u64 lng,.int .u64 ran,.int .i64 tak,.int .i64 dl]) (old:=skZ) rfl rfl rfl own rfl (by kernel_rfl) rfl ?_;intro wT hsT;refine hK _ _ ⟨own_any3,?_⟩;refine early_done ?_;clear hK K;simp only [Act.put,zqA,zqP,zqQ];generalize wx4.heap.size=tb at *;clear hsx4;go_wp2_with fail;refine wp_gen (w0:=w0) ?_;intro wi hsi
        go_loopw [149] (fun s9 wr=>∃ (q:Nat) (x:Int),q≤B.ts.length∧s9=.int .i64 q∧x=bnd B.ts lev q bound∧Sat w0 wr (pts gb 0 [.slice (some ⟨tg,tq,none⟩) B.ts.length tc,.map (some mb),.int .i64 B.run,.bool B.ent,.slice (some ⟨jg0,jo,none⟩) B.jb.length jc]*(recsP (.slice (some ⟨tg,tq,none⟩) B.ts.length tc) B.ts*(mpP mb B.ow*(recsP (.slice (some ⟨jg0,jo,none⟩) B.jb.length jc) (J.set k ⟨(t:Int),num,rel,fi,true,missed,lower,x,tidy⟩)*(pts tb 0 [.int .i64 lev,.bool idle,.bool rdy,.int .u32 on,.bool gone,.int .i64 owns,.int .i64 secs,.int .i64 opn,.int .u64 len,.int .u64 lng,.int .u64 ran,.int .i64 tak,.int .i64 dl]*(F*any))))))) (fun s9 _=>B.ts.length-(intOf s9).toNat)
        case atStart =>
         refine ⟨0,bound,Nat.zero_le _,rfl,rfl,?_⟩;rw [HSf.out];exact own_left
        case round =>
         obtain ⟨q,x,hq,rfl,hx,hsj⟩:=hrel;clear hsi
         by_cases hlq:q<B.ts.length
         ·have d5:decide (q<B.ts.length)=true:=decide_eq_true hlq;have i5:(q:Int)<(B.ts.length:Int):=by omega
          haveI:Lt q B.ts.length:=⟨hlq⟩;have hr5:=recs_row (hsj.pull (Q:=recsP (.slice (some ⟨tg,tq,none⟩) B.ts.length tc) B.ts)) hlq (rfl:_=sg B.ts q);have hnx:=hid (bnd_next B.ts lev q bound);rw [← hx] at hnx;generalize sg B.ts q=y2 at hr5 hnx;obtain ⟨lev2,idle2,rdy2,on2,gone2,owns2,secs2,opn2,len2,lng2,ran2,tak2,dl2⟩:=y2;have hrow2:(Go.World.rangeAt _ tg (tq+q*13) [.int .i64 lev2,.bool idle2,.bool rdy2,.int .u32 on2,.bool gone2,.int .i64 owns2,.int .i64 secs2,.int .i64 opn2,.int .u64 len2,.int .u64 lng2,.int .u64 ran2,.int .i64 tak2,.int .i64 dl2]):=hr5;dsimp only at hnx;have Hx:=hid hx;clear hx hr5;obtain ⟨z,hz⟩:∃ z,z=w64 (x+lng2):=⟨_,rfl⟩;have u7:IntKind.u64.wrap (x+lng2)=z:=by rw [IntKind.wrap_u64,hz]
          rw [← hz] at hnx;clear hz
          by_cases h6:lev<lev2
          ·have e6:decide (lev<lev2)=true:=decide_eq_true h6;rw [if_pos h6] at hnx;clear h6;go_wp2_with (first | (refine wpList_load_mid rfl _ _ rfl _ _ rfl _ _ hrow2 Tryz.underlying100 rfl (by kernel_rfl) ?_) | (refine wpList_store_sat (w0:=w0) (cells:=[.int .i64 lev2,.bool idle2,.bool rdy2,.int .u32 on2,.bool gone2,.int .i64 owns2,.int .i64 secs2,.int .i64 opn2,.int .u64 len2,.int .u64 lng2,.int .u64 ran2,.int .i64 tak2,.int .i64 dl2]) (old:=skZ) rfl rfl rfl rfl own rfl (by kernel_rfl) rfl ?_;intro wS hsS));clear hsj hrow2;refine wp_gen (w0:=w0) ?_;intro wx hsx;go_still_tail 9,(by kernel_rfl);change wpList _ _ _ _ _ wx.drew;go_wp2_with fail;go_roundw
           case rel=>exact ⟨q+1,z,by omega,by go_num,hnx.out.symm,own_left⟩
           case measure=>simp [intOf];omega
          ·have e6:decide (lev<lev2)=false:=decide_eq_false h6;rw [if_neg h6] at hnx;clear h6;go_wp2_with (first | (refine wpList_load_mid rfl _ _ rfl _ _ rfl _ _ hrow2 Tryz.underlying100 rfl (by kernel_rfl) ?_) | (refine wpList_store_sat (w0:=w0) (cells:=[.int .i64 lev2,.bool idle2,.bool rdy2,.int .u32 on2,.bool gone2,.int .i64 owns2,.int .i64 secs2,.int .i64 opn2,.int .u64 len2,.int .u64 lng2,.int .u64 ran2,.int .i64 tak2,.int .i64 dl2]) (old:=skZ) rfl rfl rfl rfl own rfl (by kernel_rfl) rfl ?_;intro wS hsS));clear hsj hrow2;go_roundw
           case rel=>exact ⟨q+1,x,by omega,by go_num,hnx.out.symm,own_left⟩
           case measure=>simp [intOf];omega
         ·have d5:decide (q<B.ts.length)=false:=decide_eq_false hlq;obtain rfl:q=B.ts.length:=by omega
          have Hx:=hid hx;clear hx hlq;go_wp2_with fail;go_roundw
          case rel =>
           refine ⟨k+1,_,by omega,by go_num,HM.out _ Hx.out,own_left⟩
          case measure=>simp [intOf];omega
       case false =>
        by_cases h7:0<dl
        ·have e7:decide (0<dl)=true:=decide_eq_true h7;obtain ⟨eg,eo,rfl,_⟩:=rdR_at (k:=l.length-1) (Hst.out _ (own_left (hs:=hsr))) (by omega);have hev:=hid (fun (w:World) (h:Sat w0 w F)=>(show w.cell? ⟨eg,eo+(l.length-1)*6+2,none⟩=some (.int .u64 (evg l (l.length-1)).co) by
          obtain ⟨g2,o2,e,hrow⟩:=rdR_at (k:=l.length-1) (Hst.out w h) (by omega);simp only [Option.some.injEq,Addr.mk.injEq] at e;obtain ⟨rfl,rfl,_⟩:=e;exact hrow 2 _ rfl))
         obtain ⟨lc,hlc⟩:∃ lc,lc=(evg l (l.length-1)).co:=⟨_,rfl⟩;rw [← hlc] at hev;have hlc2:lastCo l=lc:=by rw [hlc];exact lastCo_at (by omega)
         obtain ⟨z,hz⟩:∃ z,z=w64 (lc-rel):=⟨_,rfl⟩;have u8:IntKind.u64.wrap (lc-rel)=z:=by rw [IntKind.wrap_u64,hz]
         have u9:IntKind.i64.wrap ((l.length:Int)-1)=((l.length-1:Nat):Int):=by rw [IntKind.wrap_i64];omega
         have d9:decide (l.length-1<l.length)=true:=decide_eq_true (by omega);have i9:((l.length-1:Nat):Int)<(l.length:Int):=by omega
         have HM:=hid (fun (b:Int) (h:b=bnd B.ts lev B.ts.length bound)=>HN.out ⟨t,num,rel,fi,false,decide (dl<z),lower,b,false⟩ (by rw [h,hz,← hlc2];simp [h7]));clear hdl4 h7 hlc hlc2 hz;go_wp2_with fail;refine wp_gen (w0:=w0) ?_;intro wx4 hsx4;refine wp_region_early (fun w'=>Sat w0 w' (pts gb 0 [.slice (some ⟨tg,tq,none⟩) B.ts.length tc,.map (some mb),.int .i64 B.run,.bool B.ent,.slice (some ⟨jg0,jo,none⟩) B.jb.length jc]*(recsP (.slice (some ⟨tg,tq,none⟩) B.ts.length tc) B.ts*(recsP (.slice (some ⟨jg0,jo,none⟩) B.jb.length jc) (J)*any)))) [(0,true),(1,true),(2,true),(3,true),(4,true),(5,true),(6,true),(7,true),(8,true),(9,true),(10,false),(11,false)] (by kernel_rfl) (by kernel_rfl) (fun _ _ _ _ h=>h) own_any3 ?_
         iterate 9 (first | refine early_S ?_ | refine early_N ?_)
         refine early_load_row (cells:=[.int .i64 lev,.bool idle,.bool rdy,.int .u32 on,.bool gone,.int .i64 owns,.int .i64 secs,.int .i64 opn,.int .u64 len,.int .u64 lng,.int .u64 ran,.int .i64 tak,.int .i64 dl]) rfl rfl rfl rfl (fun w h=>hY.out w _ h.drop) Tryz.underlying100 rfl (by kernel_rfl) ?_;simp only [Act.put,zqA,zqP,zqQ];refine early_G rfl (by rfl) (fun K hK=>?_);go_wp2_with fail
         (first | refine ⟨own_any3,?_⟩ | skip)
         refine early_G rfl (by rfl) (fun K hK=>?_);refine wp_store_sat (w0:=w0) (cells:=[.int .i64 lev,.bool idle,.bool rdy,.int .u32 on,.bool gone,.int .i64 owns,.int .i64 secs,.int .i64 opn,.int .u64 len,.int .u64 lng,.int .u64 ran,.int .i64 tak,.int .i64 dl]) (old:=skZ) rfl rfl rfl own rfl (by kernel_rfl) rfl ?_;intro wT hsT;refine hK _ _ ⟨own_any3,?_⟩;refine early_done ?_;clear hK K;simp only [Act.put,zqA,zqP,zqQ];generalize wx4.heap.size=tb at *;clear hsx4;go_wp2_with fail;refine wp_gen (w0:=w0) ?_;intro wt hsT2;have hc9:=hev.out wt own_left
         go_still_tail 24,(by kernel_rfl)
         change wpList _ _ _ _ _ wt.drew
         go_wp2_with fail;refine wp_gen (w0:=w0) ?_;intro wi hsi
         go_loopw [149] (fun s9 wr=>∃ (q:Nat) (x:Int),q≤B.ts.length∧s9=.int .i64 q∧x=bnd B.ts lev q bound∧Sat w0 wr (pts gb 0 [.slice (some ⟨tg,tq,none⟩) B.ts.length tc,.map (some mb),.int .i64 B.run,.bool B.ent,.slice (some ⟨jg0,jo,none⟩) B.jb.length jc]*(recsP (.slice (some ⟨tg,tq,none⟩) B.ts.length tc) B.ts*(mpP mb B.ow*(recsP (.slice (some ⟨jg0,jo,none⟩) B.jb.length jc) (J.set k ⟨(t:Int),num,rel,fi,false,(decide (dl<z)),lower,x,false⟩)*(pts tb 0 [.int .i64 lev,.bool idle,.bool rdy,.int .u32 on,.bool gone,.int .i64 owns,.int .i64 secs,.int .i64 opn,.int .u64 len,.int .u64 lng,.int .u64 ran,.int .i64 tak,.int .i64 dl]*(F*any))))))) (fun s9 _=>B.ts.length-(intOf s9).toNat)
         case atStart=>exact ⟨0,bound,Nat.zero_le _,rfl,rfl,own_left⟩
         case round =>
          obtain ⟨q,x,hq,rfl,hx,hsj⟩:=hrel;clear hsi
          by_cases hlq:q<B.ts.length
          ·have d5:decide (q<B.ts.length)=true:=decide_eq_true hlq;have i5:(q:Int)<(B.ts.length:Int):=by omega
           haveI:Lt q B.ts.length:=⟨hlq⟩;have hr5:=recs_row (hsj.pull (Q:=recsP (.slice (some ⟨tg,tq,none⟩) B.ts.length tc) B.ts)) hlq (rfl:_=sg B.ts q);have hnx:=hid (bnd_next B.ts lev q bound);rw [← hx] at hnx;generalize sg B.ts q=y2 at hr5 hnx;obtain ⟨lev2,idle2,rdy2,on2,gone2,owns2,secs2,opn2,len2,lng2,ran2,tak2,dl2⟩:=y2;have hrow2:(Go.World.rangeAt _ tg (tq+q*13) [.int .i64 lev2,.bool idle2,.bool rdy2,.int .u32 on2,.bool gone2,.int .i64 owns2,.int .i64 secs2,.int .i64 opn2,.int .u64 len2,.int .u64 lng2,.int .u64 ran2,.int .i64 tak2,.int .i64 dl2]):=hr5;dsimp only at hnx;have Hx:=hid hx;clear hx hr5;obtain ⟨z,hz⟩:∃ z,z=w64 (x+lng2):=⟨_,rfl⟩;have u7:IntKind.u64.wrap (x+lng2)=z:=by rw [IntKind.wrap_u64,hz]
           rw [← hz] at hnx;clear hz
           by_cases h6:lev<lev2
           ·have e6:decide (lev<lev2)=true:=decide_eq_true h6;rw [if_pos h6] at hnx;clear h6;go_wp2_with (first | (refine wpList_load_mid rfl _ _ rfl _ _ rfl _ _ hrow2 Tryz.underlying100 rfl (by kernel_rfl) ?_) | (refine wpList_store_sat (w0:=w0) (cells:=[.int .i64 lev2,.bool idle2,.bool rdy2,.int .u32 on2,.bool gone2,.int .i64 owns2,.int .i64 secs2,.int .i64 opn2,.int .u64 len2,.int .u64 lng2,.int .u64 ran2,.int .i64 tak2,.int .i64 dl2]) (old:=skZ) rfl rfl rfl rfl own rfl (by kernel_rfl) rfl ?_;intro wS hsS));clear hsj hrow2;refine wp_gen (w0:=w0) ?_;intro wx hsx;go_still_tail 9,(by kernel_rfl);change wpList _ _ _ _ _ wx.drew;go_wp2_with fail;go_roundw
            case rel=>exact ⟨q+1,z,by omega,by go_num,hnx.out.symm,own_left⟩
            case measure=>simp [intOf];omega
           ·have e6:decide (lev<lev2)=false:=decide_eq_false h6;rw [if_neg h6] at hnx;clear h6;go_wp2_with (first | (refine wpList_load_mid rfl _ _ rfl _ _ rfl _ _ hrow2 Tryz.underlying100 rfl (by kernel_rfl) ?_) | (refine wpList_store_sat (w0:=w0) (cells:=[.int .i64 lev2,.bool idle2,.bool rdy2,.int .u32 on2,.bool gone2,.int .i64 owns2,.int .i64 secs2,.int .i64 opn2,.int .u64 len2,.int .u64 lng2,.int .u64 ran2,.int .i64 tak2,.int .i64 dl2]) (old:=skZ) rfl rfl rfl rfl own rfl (by kernel_rfl) rfl ?_;intro wS hsS));clear hsj hrow2;go_roundw
            case rel=>exact ⟨q+1,x,by omega,by go_num,hnx.out.symm,own_left⟩
            case measure=>simp [intOf];omega
          ·have d5:decide (q<B.ts.length)=false:=decide_eq_false hlq;obtain rfl:q=B.ts.length:=by omega
           have Hx:=hid hx;clear hx hlq;go_wp2_with fail;go_roundw
           case rel =>
            refine ⟨k+1,_,by omega,by go_num,HM.out _ Hx.out,own_left⟩
           case measure=>simp [intOf];omega
        ·have e7:decide (0<dl)=false:=decide_eq_false h7;have HM:=hid (fun (b:Int) (h:b=bnd B.ts lev B.ts.length bound)=>HN.out ⟨t,num,rel,fi,false,false,lower,b,false⟩ (by rw [h];simp [h7]));clear hdl4 h7;go_wp2_with fail;refine wp_gen (w0:=w0) ?_;intro wx4 hsx4;refine wp_region_early (fun w'=>Sat w0 w' (pts gb 0 [.slice (some ⟨tg,tq,none⟩) B.ts.length tc,.map (some mb),.int .i64 B.run,.bool B.ent,.slice (some ⟨jg0,jo,none⟩) B.jb.length jc]*(recsP (.slice (some ⟨tg,tq,none⟩) B.ts.length tc) B.ts*(recsP (.slice (some ⟨jg0,jo,none⟩) B.jb.length jc) (J)*any)))) [(0,true),(1,true),(2,true),(3,true),(4,true),(5,true),(6,true),(7,true),(8,true),(9,true),(10,false),(11,false)] (by kernel_rfl) (by kernel_rfl) (fun _ _ _ _ h=>h) own_any3 ?_
         iterate 9 (first | refine early_S ?_ | refine early_N ?_)
         refine early_load_row (cells:=[.int .i64 lev,.bool idle,.bool rdy,.int .u32 on,.bool gone,.int .i64 owns,.int .i64 secs,.int .i64 opn,.int .u64 len,.int .u64 lng,.int .u64 ran,.int .i64 tak,.int .i64 dl]) rfl rfl rfl rfl (fun w h=>hY.out w _ h.drop) Tryz.underlying100 rfl (by kernel_rfl) ?_;simp only [Act.put,zqA,zqP,zqQ];refine early_G rfl (by rfl) (fun K hK=>?_);go_wp2_with fail
         (first | refine ⟨own_any3,?_⟩ | skip)
         refine early_G rfl (by rfl) (fun K hK=>?_);refine wp_store_sat (w0:=w0) (cells:=[.int .i64 lev,.bool idle,.bool rdy,.int .u32 on,.bool gone,.int .i64 owns,.int .i64 secs,.int .i64 opn,.int .u64 len,.int .u64 lng,.int .u64 ran,.int .i64 tak,.int .i64 dl]) (old:=skZ) rfl rfl rfl own rfl (by kernel_rfl) rfl ?_;intro wT hsT;refine hK _ _ ⟨own_any3,?_⟩;refine early_done ?_;clear hK K;simp only [Act.put,zqA,zqP,zqQ];generalize wx4.heap.size=tb at *;clear hsx4;go_wp2_with fail;refine wp_gen (w0:=w0) ?_;intro wt hsT2;refine wp_region_early (fun w'=>w'.cell? ⟨tb,12,none⟩=some (.int .i64 dl)) [(0,true),(1,true),(2,true),(3,true),(4,true),(5,true),(6,true),(7,true),(8,true),(9,true),(10,true),(11,true),(12,true),(13,true),(14,true),(15,true),(16,true),(17,true),(18,true),(19,true),(20,true),(21,true),(22,true),(23,true),(24,false)] (by kernel_rfl) (by kernel_rfl) (fun _ _ _ _ h=>h) own_cell ?_
         iterate 24 (first | refine early_S ?_ | refine early_N ?_)
         refine early_G rfl (by rfl) (fun K hK=>?_);go_wp2_with fail
         (first | refine ⟨own_cell,?_⟩ | skip)
         (first | refine early_done ?_ | skip)
         go_wp2_with fail;refine wp_gen (w0:=w0) ?_;intro wi hsi
         go_loopw [149] (fun s9 wr=>∃ (q:Nat) (x:Int),q≤B.ts.length∧s9=.int .i64 q∧x=bnd B.ts lev q bound∧Sat w0 wr (pts gb 0 [.slice (some ⟨tg,tq,none⟩) B.ts.length tc,.map (some mb),.int .i64 B.run,.bool B.ent,.slice (some ⟨jg0,jo,none⟩) B.jb.length jc]*(recsP (.slice (some ⟨tg,tq,none⟩) B.ts.length tc) B.ts*(mpP mb B.ow*(recsP (.slice (some ⟨jg0,jo,none⟩) B.jb.length jc) (J.set k ⟨(t:Int),num,rel,fi,false,false,lower,x,false⟩)*(pts tb 0 [.int .i64 lev,.bool idle,.bool rdy,.int .u32 on,.bool gone,.int .i64 owns,.int .i64 secs,.int .i64 opn,.int .u64 len,.int .u64 lng,.int .u64 ran,.int .i64 tak,.int .i64 dl]*(F*any))))))) (fun s9 _=>B.ts.length-(intOf s9).toNat)
         case atStart=>exact ⟨0,bound,Nat.zero_le _,rfl,rfl,own_left⟩
         case round =>
          obtain ⟨q,x,hq,rfl,hx,hsj⟩:=hrel;clear hsi
          by_cases hlq:q<B.ts.length
          ·have d5:decide (q<B.ts.length)=true:=decide_eq_true hlq;have i5:(q:Int)<(B.ts.length:Int):=by omega
           haveI:Lt q B.ts.length:=⟨hlq⟩;have hr5:=recs_row (hsj.pull (Q:=recsP (.slice (some ⟨tg,tq,none⟩) B.ts.length tc) B.ts)) hlq (rfl:_=sg B.ts q);have hnx:=hid (bnd_next B.ts lev q bound);rw [← hx] at hnx;generalize sg B.ts q=y2 at hr5 hnx;obtain ⟨lev2,idle2,rdy2,on2,gone2,owns2,secs2,opn2,len2,lng2,ran2,tak2,dl2⟩:=y2;have hrow2:(Go.World.rangeAt _ tg (tq+q*13) [.int .i64 lev2,.bool idle2,.bool rdy2,.int .u32 on2,.bool gone2,.int .i64 owns2,.int .i64 secs2,.int .i64 opn2,.int .u64 len2,.int .u64 lng2,.int .u64 ran2,.int .i64 tak2,.int .i64 dl2]):=hr5;dsimp only at hnx;have Hx:=hid hx;clear hx hr5;obtain ⟨z,hz⟩:∃ z,z=w64 (x+lng2):=⟨_,rfl⟩;have u7:IntKind.u64.wrap (x+lng2)=z:=by rw [IntKind.wrap_u64,hz]
           rw [← hz] at hnx;clear hz
           by_cases h6:lev<lev2
           ·have e6:decide (lev<lev2)=true:=decide_eq_true h6;rw [if_pos h6] at hnx;clear h6;go_wp2_with (first | (refine wpList_load_mid rfl _ _ rfl _ _ rfl _ _ hrow2 Tryz.underlying100 rfl (by kernel_rfl) ?_) | (refine wpList_store_sat (w0:=w0) (cells:=[.int .i64 lev2,.bool idle2,.bool rdy2,.int .u32 on2,.bool gone2,.int .i64 owns2,.int .i64 secs2,.int .i64 opn2,.int .u64 len2,.int .u64 lng2,.int .u64 ran2,.int .i64 tak2,.int .i64 dl2]) (old:=skZ) rfl rfl rfl rfl own rfl (by kernel_rfl) rfl ?_;intro wS hsS));clear hsj hrow2;refine wp_gen (w0:=w0) ?_;intro wx hsx;go_still_tail 9,(by kernel_rfl);change wpList _ _ _ _ _ wx.drew;go_wp2_with fail;go_roundw
            case rel=>exact ⟨q+1,z,by omega,by go_num,hnx.out.symm,own_left⟩
            case measure=>simp [intOf];omega
           ·have e6:decide (lev<lev2)=false:=decide_eq_false h6;rw [if_neg h6] at hnx;clear h6;go_wp2_with (first | (refine wpList_load_mid rfl _ _ rfl _ _ rfl _ _ hrow2 Tryz.underlying100 rfl (by kernel_rfl) ?_) | (refine wpList_store_sat (w0:=w0) (cells:=[.int .i64 lev2,.bool idle2,.bool rdy2,.int .u32 on2,.bool gone2,.int .i64 owns2,.int .i64 secs2,.int .i64 opn2,.int .u64 len2,.int .u64 lng2,.int .u64 ran2,.int .i64 tak2,.int .i64 dl2]) (old:=skZ) rfl rfl rfl rfl own rfl (by kernel_rfl) rfl ?_;intro wS hsS));clear hsj hrow2;go_roundw
            case rel=>exact ⟨q+1,x,by omega,by go_num,hnx.out.symm,own_left⟩
            case measure=>simp [intOf];omega
          ·have d5:decide (q<B.ts.length)=false:=decide_eq_false hlq;obtain rfl:q=B.ts.length:=by omega
           have Hx:=hid hx;clear hx hlq;go_wp2_with fail;go_roundw
           case rel =>
            refine ⟨k+1,_,by omega,by go_num,HM.out _ Hx.out,own_left⟩
           case measure=>simp [intOf];omega
      ·have d2:decide (k<B.jb.length)=false:=decide_eq_false hlk;obtain rfl:k=B.jb.length:=by omega
       clear hlk hk;go_wp2_with fail;go_ret;refine ⟨gb,rfl,?_⟩;rw [hE.out];rw [List.take_length,List.drop_length,List.append_nil] at hJ;refine bk_in2 (mb:=mb) (ta:=ta2) (ja:=ja) (tc:=tc) (jc:=jc) B.ts B.ow B.run B.ent J rfl rfl rfl rfl hJ.symm ?_;rw [show J.length=B.jb.length by rw [hJ,List.length_map]];exact own_left
end Go.Proofs.YtkeommmigopnkaaGreatDoor
namespace Go.Proofs.YtkeommmigopnkaaGreatDoor
open Go.RowKit Go.Sx Go.Dl Go.Lk Go.Rq Go.Au Go.Hi Go.St
@[go_sem] theorem field_ft_s (a b c d:Int) (w:World):Sem.run Tryz.prog (Instr.field 80 (.agg #[.int .i64 a,.int .i64 b,.int .i64 c,.int .i64 d]) 0) w=.ok (.int .i64 a) w:=by kernel_rfl
def stCh (c:Cf) (l:List Ev):Int:=if (confF c).err=0 then (if 0≤chkI l∨l.any (strayE c.ts.length)=true then 1 else 0) else 3
theorem any_next (p:Ev→Bool) {l:List Ev} {k:Nat} (h:k<l.length):(l.take (k+1)).any p=((l.take k).any p || p (evg l k)):=by
 rw [List.take_add_one,List.getElem?_eq_getElem h,List.any_append];unfold evg;rw [List.getD_eq_getElem?_getD,List.getElem?_eq_getElem h];simp
theorem any_at {p:Ev→Bool} {l:List Ev} {k:Nat} (h:k<l.length) (hp:p (evg l k)=true):l.any p=true:=by
 refine List.any_eq_true.2 ⟨evg l k,?_,hp⟩;unfold evg;rw [List.getD_eq_getElem?_getD,List.getElem?_eq_getElem h];exact List.getElem_mem h
theorem evg_mem {l:List Ev} {k:Nat} (h:k<l.length):evg l k∈l:=by
 unfold evg;rw [List.getD_eq_getElem?_getD,List.getElem?_eq_getElem h];exact List.getElem_mem h
theorem stCheck3 (v u:Value) (c:Cf) (rg:CfRng c) (l:List Ev) (hl:l.length<900000) (hev:∀ e∈l,EvOk e) (he:(confF c).err≠0) (w0 w:World) (F:HP) (hr:RdCf w0 v c) (hst:StaysE w0 F u l) (hs:Sat w0 w F) :
  Calls Tryz.prog 19 #[v,u] w (RetV w0 (.int .i64 (stCh c l)) F):=by
 obtain ⟨ua,uc,rfl⟩:∃ ua uc,u=.slice ua l.length uc:=by
  obtain ⟨a,cap,b,off,e,_⟩:=hst w hs;exact ⟨a,cap,e⟩
 have hA:=hid (fun (w:World) (h:Sat w0 w any)=>confCheck v c rg w (hr.later h));have hB:=hid (fun (w:World) (G:HP) (h:Sat w0 w (F*G))=>auCheck (.slice ua l.length uc) l (by omega) hev w0 w (F*G) h (fun w hh=>hst w (show Sat w0 w F from own_left)));have hC:=hid (show stCh c l=3 from if_neg he);have e1:((confF c).err != 0)=true:=by simp [he]
 clear he;have Hst:=hid hst;have Hev:=hid hev;obtain ⟨ta,la,sa,qa,ma,tc,lc,sc,qc,mc,rfl,h1,h2,h3,h4,h5⟩:=hr.form;clear hr h1 h2 h3 h4 h5 hst hev
 go_enter Tryz.func19,Tryz.ntmps19
 go_wp2_with fail;refine (hA.out _ own_left).mono ?_;rintro en w1 ⟨rfl,hs1⟩;have hs2:=Sat.past (w0:=w0) own_it hs1;clear hs1 hs hA;unfold ftV;go_wp2_with fail;go_ret;exact ⟨by rw [hC.out];rfl,own_left⟩
theorem stCheck1 (v u:Value) (c:Cf) (rg:CfRng c) (l:List Ev) (hl:l.length<900000) (hev:∀ e∈l,EvOk e) (he:(confF c).err=0) (h0:0≤chkI l) (w0 w:World) (F:HP) (hr:RdCf w0 v c) (hst:StaysE w0 F u l) (hs:Sat w0 w F) :
  Calls Tryz.prog 19 #[v,u] w (RetV w0 (.int .i64 (stCh c l)) F):=by
 obtain ⟨ua,uc,rfl⟩:∃ ua uc,u=.slice ua l.length uc:=by
  obtain ⟨a,cap,b,off,e,_⟩:=hst w hs;exact ⟨a,cap,e⟩
 have hA:=hid (fun (w:World) (h:Sat w0 w any)=>confCheck v c rg w (hr.later h));have hB:=hid (fun (w:World) (G:HP) (h:Sat w0 w (F*G))=>auCheck (.slice ua l.length uc) l (by omega) hev w0 w (F*G) h (fun w hh=>hst w (show Sat w0 w F from own_left)));have hC:=hid (show stCh c l=1 from (if_pos he).trans (if_pos (.inl h0)));have e1:((confF c).err != 0)=false:=by simp [he]
 clear he;have Hst:=hid hst;have Hev:=hid hev;obtain ⟨ta,la,sa,qa,ma,tc,lc,sc,qc,mc,rfl,h1,h2,h3,h4,h5⟩:=hr.form;clear hr h1 h2 h3 h4 h5 hst hev
 go_enter Tryz.func19,Tryz.ntmps19
 go_wp2_with fail;refine (hA.out _ own_left).mono ?_;rintro en w1 ⟨rfl,hs1⟩;have hs2:=Sat.past (w0:=w0) own_it hs1;clear hs1 hs hA;unfold ftV;go_wp2_with fail;have hs4:Sat w0 w1 (F*(pts w.heap.size 0 [.slice ta c.ts.length tc,.slice la c.ls.length lc,.int .i64 c.mutexes,.slice sa c.sems.length sc,.slice qa c.queues.length qc,.slice ma c.timers.length mc,.int .i64 c.table,.int .u32 c.mask,.int .u32 c.filter,.int .i64 c.charge,.int .u64 c.cycle,.int .u64 c.count]*any)):=own_left;refine (hB.out _ _ hs4).mono ?_;rintro en w2 ⟨rfl,hs3⟩;clear hs2 hs4 hB;go_wp2_with fail;go_ret;exact ⟨by rw [hC.out];rfl,own_left⟩
theorem stCheck0 (v u:Value) (c:Cf) (rg:CfRng c) (l:List Ev) (hl:l.length<900000) (hev:∀ e∈l,EvOk e) (he:(confF c).err=0) (h0:¬ 0≤chkI l) (w0 w:World) (F:HP) (hr:RdCf w0 v c) (hst:StaysE w0 F u l) (hs:Sat w0 w F) :
  Calls Tryz.prog 19 #[v,u] w (RetV w0 (.int .i64 (stCh c l)) F):=by
 obtain ⟨ua,uc,rfl⟩:∃ ua uc,u=.slice ua l.length uc:=by
  obtain ⟨a,cap,b,off,e,_⟩:=hst w hs;exact ⟨a,cap,e⟩
 have hA:=hid (fun (w:World) (h:Sat w0 w any)=>confCheck v c rg w (hr.later h));have hB:=hid (fun (w:World) (G:HP) (h:Sat w0 w (F*G))=>auCheck (.slice ua l.length uc) l (by omega) hev w0 w (F*G) h (fun w hh=>hst w (show Sat w0 w F from own_left)));have hC:=hid (show stCh c l=(if l.any (strayE c.ts.length)=true then 1 else 0) by unfold stCh;rw [if_pos he];simp [h0]);have e1:((confF c).err != 0)=false:=by simp [he]
 have hn64:=(confF_ok rg he).1;clear he;have Hst:=hid hst;have Hev:=hid hev;obtain ⟨ta,la,sa,qa,ma,tc,lc,sc,qc,mc,rfl,h1,h2,h3,h4,h5⟩:=hr.form;clear hr h1 h2 h3 h4 h5 hst hev
 go_enter Tryz.func19,Tryz.ntmps19
 go_wp2_with fail;refine (hA.out _ own_left).mono ?_;rintro en w1 ⟨rfl,hs1⟩;have hs2:=Sat.past (w0:=w0) own_it hs1;clear hs1 hs hA;unfold ftV;go_wp2_with fail;have hs4:Sat w0 w1 (F*(pts w.heap.size 0 [.slice ta c.ts.length tc,.slice la c.ls.length lc,.int .i64 c.mutexes,.slice sa c.sems.length sc,.slice qa c.queues.length qc,.slice ma c.timers.length mc,.int .i64 c.table,.int .u32 c.mask,.int .u32 c.filter,.int .i64 c.charge,.int .u64 c.cycle,.int .u64 c.count]*any)):=own_left;refine (hB.out _ _ hs4).mono ?_;rintro en w2 ⟨rfl,hs3⟩;clear hs2 hs4 hB;go_wp2_with fail;refine wp_gen (w0:=w0) ?_;intro wx hsx;generalize w.heap.size=cb at *;clear hs3
 go_loopw [16] (fun i wr=>∃ k:Nat,k≤l.length∧i=.int .i64 k∧(l.take k).any (strayE c.ts.length)=false∧Sat w0 wr (pts cb 0 [.slice ta c.ts.length tc,.slice la c.ls.length lc,.int .i64 c.mutexes,.slice sa c.sems.length sc,.slice qa c.queues.length qc,.slice ma c.timers.length mc,.int .i64 c.table,.int .u32 c.mask,.int .u32 c.filter,.int .i64 c.charge,.int .u64 c.cycle,.int .u64 c.count]*(F*any))) (fun i _=>l.length-(intOf i).toNat)
 case atStart=>exact ⟨0,Nat.zero_le _,rfl,rfl,own_left⟩
 case round =>
  obtain ⟨k,hk,rfl,hnone,hsr⟩:=hrel;clear hsx
  by_cases hlt:k<l.length
  ·have d1:decide (k<l.length)=true:=decide_eq_true hlt;have i1:(k:Int)<(l.length:Int):=by omega
   obtain ⟨eg,eo,rfl,hrow0⟩:=rdR_at (k:=k) (Hst.out wr own_left) hlt;have hrow:wr.rangeAt eg (eo+k*6) (evCells (evg l k)):=hrow0;have hE:=Hev.out _ (evg_mem hlt);have hnx:=hid (show (l.take (k+1)).any (strayE c.ts.length)=strayE c.ts.length (evg l k) by rw [any_next _ hlt,hnone,Bool.false_or]);have hat:=hid (fun hp=>any_at (p:=strayE c.ts.length) hlt hp);have hLk:=hid (fun (w:World) (G:HP) (hs:Sat w0 w G)=>stStray c.ts.length hn64 (evg l k) (hE.a) (hE.b) w0 w G hs);generalize evg l k=e at hrow hnx hLk hat;clear hrow0 hE hnone;obtain ⟨z,hz⟩:∃ z,z=strayE c.ts.length e:=⟨_,rfl⟩;rw [← hz] at hnx hat hLk;clear hz;obtain ⟨ek,cy,co,a,b,vv⟩:=e
   cases z
   case false =>
    go_wp2_with (first | (refine wpList_load_mid rfl _ _ rfl _ _ rfl _ _ hrow Tryz.underlying45 rfl (by kernel_rfl) ?_) | (refine wpList_store_sat (w0:=w0) (cells:=[.int .i64 ek,.int .u64 cy,.int .u64 co,.int .u32 a,.int .u32 b,.int .u32 vv]) (old:=[.int .i64 0,.int .u64 0,.int .u64 0,.int .u32 0,.int .u32 0,.int .u32 0]) rfl rfl rfl rfl own rfl (by kernel_rfl) rfl ?_;intro wS hsS) | (refine wpList_load_sat (w0:=w0) (cells:=[.int .i64 ek,.int .u64 cy,.int .u64 co,.int .u32 a,.int .u32 b,.int .u32 vv]) rfl rfl rfl own Tryz.underlying45 rfl (by kernel_rfl) ?_));refine (hLk.out _ _ own_it).mono ?_;rintro en w4 ⟨rfl,hs4⟩;clear hsr hsS hrow;go_wp2_with fail;go_roundw
    case rel=>exact ⟨k+1,by omega,by go_num,hnx.out,own_left⟩
    case measure=>simp [intOf];omega
   case true =>
    have hq:=hid (show stCh c l=1 by rw [hC.out,if_pos (hat.out rfl)]);go_wp2_with (first | (refine wpList_load_mid rfl _ _ rfl _ _ rfl _ _ hrow Tryz.underlying45 rfl (by kernel_rfl) ?_) | (refine wpList_store_sat (w0:=w0) (cells:=[.int .i64 ek,.int .u64 cy,.int .u64 co,.int .u32 a,.int .u32 b,.int .u32 vv]) (old:=[.int .i64 0,.int .u64 0,.int .u64 0,.int .u32 0,.int .u32 0,.int .u32 0]) rfl rfl rfl rfl own rfl (by kernel_rfl) rfl ?_;intro wS hsS) | (refine wpList_load_sat (w0:=w0) (cells:=[.int .i64 ek,.int .u64 cy,.int .u64 co,.int .u32 a,.int .u32 b,.int .u32 vv]) rfl rfl rfl own Tryz.underlying45 rfl (by kernel_rfl) ?_));refine (hLk.out _ _ own_it).mono ?_;rintro en w4 ⟨rfl,hs4⟩;clear hsr hsS hrow;go_wp2_with fail;go_ret;exact ⟨by rw [hq.out];rfl,own_left⟩
  ·have d1:decide (k<l.length)=false:=decide_eq_false hlt;obtain rfl:k=l.length:=by omega
   rw [List.take_length] at hnone;have hq:=hid (show stCh c l=0 by rw [hC.out,hnone];rfl);clear hnone hC;go_wp2_with fail;go_ret;exact ⟨by rw [hq.out];rfl,own_left⟩
theorem stCheck (v u:Value) (c:Cf) (rg:CfRng c) (l:List Ev) (hl:l.length<900000) (hev:∀ e∈l,EvOk e) (w0 w:World) (F:HP) (hr:RdCf w0 v c) (hst:StaysE w0 F u l) (hs:Sat w0 w F) :
  Calls Tryz.prog 19 #[v,u] w (RetV w0 (.int .i64 (stCh c l)) F):=by
 by_cases he:(confF c).err=0
 ·by_cases h0:0≤chkI l
  ·exact stCheck1 v u c rg l hl hev he h0 w0 w F hr hst hs
  ·exact stCheck0 v u c rg l hl hev he h0 w0 w F hr hst hs
 ·exact stCheck3 v u c rg l hl hev he w0 w F hr hst hs
end Go.Proofs.YtkeommmigopnkaaGreatDoor
