/-
  Parts of the proof: WaitB Ints StO HistB StRn.
-/
import Derived.Test.YtkeommmigopnkaaGreatDoorKF2
import Derived.Test.YtkeommmigopnkaaGreatDoorKF3
import Derived.Test.YtkeommmigopnkaaGreatDoorKF12
import Derived.Test.YtkeommmigopnkaaGreatDoorKF16
import Derived.Test.YtkeommmigopnkaaGreatDoorKF17
import Derived.Test.YtkeommmigopnkaaGreatDoorKF18
import Derived.Test.YtkeommmigopnkaaGreatDoorKF23
set_option linter.unusedVariables false
set_option linter.unusedSimpArgs false
set_option maxHeartbeats 32000000
set_option maxRecDepth 100000
namespace Go.Proofs.YtkeommmigopnkaaGreatDoor
open Go.RowKit Go.Sx
def Drawn (v:Value) (w:World) (e:Ending) (w':World):Prop:=e=.returned v∧∃ n,w'=w.drewN n
theorem ints_next {l m:List Int} (hlen:l.length=m.length) {k:Nat} (hk:k<l.length) (h:l.take k=m.take k) (e:l.getD k 0=m.getD k 0):l.take (k+1)=m.take (k+1):=by
 rw [List.take_succ_eq_append_getElem hk,List.take_succ_eq_append_getElem (by omega),h];have e1:l.getD k 0=l[k]:=by simp [List.getD,hk]
 have e2:m.getD k 0=m[k]:=by simp [List.getD,show k<m.length by omega]
 rw [← e1,← e2,e]
theorem ints (v u:Value) (l m:List Int) (w:World) (h:RdN .i64 w v l) (hm:RdN .i64 w u m) :
  Calls Tryz.prog 15 #[v,u] w (Drawn (.bool (decide (l=m))) w):=by
 obtain ⟨a,cap,b,off,rfl,hcap,hbig,ha,hc⟩:=h;obtain ⟨la,lcap,lb,loff,rfl,hlcap,hlbig,hla,hlc⟩:=hm;unfold maxLen at hbig hlbig
 by_cases hlen:l.length=m.length
 ·have hb:((l.length:Int) != (m.length:Int))=false:=by simp [hlen]
  have hlen':=hid hlen;clear hlen
  go_enter Tryz.func15,Tryz.ntmps15
  go_wp2_with fail
  go_loopw [5] (fun i wr=>∃ k n:Nat,k≤l.length∧i=.int .i64 k∧l.take k=m.take k∧wr=w.drewN n) (fun i _=>l.length-(intOf i).toNat)
  case atStart=>exact ⟨0,0,Nat.zero_le _,rfl,rfl,rfl⟩
  case round =>
   obtain ⟨k,n,hk,rfl,heq,rfl⟩:=hrel;have heq:=hid heq
   by_cases hlt:k<l.length
   ·have hlt2:k<m.length:=by have:=hlen'.out;omega
    obtain rfl:=ha (by intro h;simp [h] at hlt);obtain rfl:=hla (by intro h;simp [h] at hlt2);have c1:=hc k hlt;have c2:=hlc k hlt2;have hnext:=hid (fun e=>ints_next hlen'.out hlt heq.out e);have hne:Hid (l.getD k 0≠m.getD k 0→l≠m):=fun h e=>h (by rw [e]);generalize l.getD k 0=x at c1 hnext hne;generalize m.getD k 0=y at c2 hnext hne;clear hc hlc ha hla
    by_cases hxy:x=y
    ·have hb2:(x != y)=false:=by simp [hxy]
     have hxy:=hid hxy;go_wp2_with fail;go_quiet (fail);go_wp2;go_roundw
     case rel=>exact ⟨k+1,_,by omega,by go_num,hnext.out hxy.out,rfl⟩
     case measure=>simp [intOf];omega
    ·have hb2:(x != y)=true:=by simp [hxy]
     have hd:decide (l=m)=false:=decide_eq_false (hne.out hxy);go_wp2_with fail;go_quiet (fail);go_wp2;go_ret;exact ⟨by rw [hd];rfl,n+nq,by simp⟩
   ·have hd:decide (l=m)=true:=decide_eq_true (by have h1:=heq.out;rw [List.take_of_length_le (by omega),List.take_of_length_le (by have:=hlen'.out;omega)] at h1;exact h1);clear hc hlc ha hla;go_wp2_with fail;go_ret;exact ⟨by rw [hd];rfl,_,rfl⟩
 ·have hb:((l.length:Int) != (m.length:Int))=true:=by simp;omega
  have hd:decide (l=m)=false:=decide_eq_false (fun e=>hlen (by rw [e]));clear hc hlc ha hla
  go_enter Tryz.func15,Tryz.ntmps15
  go_wp2_with fail;go_ret;exact ⟨by rw [hd];rfl,0,rfl⟩
theorem intsS (v u:Value) (l m:List Int) (w0 w:World) (P:HP) (hs:Sat w0 w P) (h:RdN .i64 w v l) (hm:RdN .i64 w u m) :
  Calls Tryz.prog 15 #[v,u] w (RetV w0 (.bool (decide (l=m))) P) :=
 (ints v u l m w h hm).mono (by rintro e w' ⟨rfl,n,rfl⟩;exact ⟨rfl,hs.drewN n⟩)
end Go.Proofs.YtkeommmigopnkaaGreatDoor
namespace Go.Proofs.YtkeommmigopnkaaGreatDoor
open Go.RowKit Go.Sx Go.Dl Go.Lk Go.Rq Go.Au Go.Hi Go.St
def NumsR (w0:World) (F:HP) (c:Cf) (l:List Ev) (κ:IntKind) (f:Sk→Int) (e:Ending) (w':World):Prop :=
 (stCh c l≠0∧e=.returned (.tuple #[.slice none 0 0,.int .i64 (stCh c l)])∧Sat w0 w' F) ∨
 (stCh c l=0∧∃ (a:Option Addr) (L:List Int) (k:Nat),L=(Bk.read (tks0 c) l).ts.map f∧e=.returned (.tuple #[.slice a L.length k,.int .i64 0])∧Sat w0 w' (numsP κ (.slice a L.length k) L*F))
theorem stRan_ (v u:Value) (c:Cf) (rg:CfRng c) (l:List Ev) (hl:l.length<900000) (hev:∀ e∈l,EvOk e) (w0 w:World) (F:HP) (hr:RdCf w0 v c) (hst:StaysE w0 F u l) (hs:Sat w0 w F) :
  Calls Tryz.prog 12 #[v,u] w (NumsR w0 F c l .u64 (·.ran)):=by
 have hC:=hid (fun (w:World) (G:HP) (h:Sat w0 w (F*G))=>stCheck v u c rg l hl hev w0 w (F*G) hr (fun w hh=>hst w (show Sat w0 w F from own_left)) h);have hR:=hid (fun (g:GoodE c l) (w:World) (G:HP) (h:Sat w0 w (F*G))=>stRead v u c l g.nt g.dl hl g.ck g.ft w0 w (F*G) hr (fun w hh=>hst w (show Sat w0 w F from own_left)) h);have hG:=hid (good_of rg hev (c:=c) (l:=l));obtain ⟨ua,uc,rfl⟩:∃ ua uc,u=.slice ua l.length uc:=by
  obtain ⟨a,cap,b,off,e,_⟩:=hst w hs;exact ⟨a,cap,e⟩
 obtain ⟨ta,la,sa,qa,ma,tc,lc,sc,qc,mc,rfl,h1,h2,h3,h4,h5⟩:=hr.form;clear hr h1 h2 h3 h4 h5 hst hev rg
 go_enter Tryz.func12,Tryz.ntmps12
 go_wp2_with fail;refine (hC.out _ (pts w.heap.size 0 [.slice ta c.ts.length tc,.slice la c.ls.length lc,.int .i64 c.mutexes,.slice sa c.sems.length sc,.slice qa c.queues.length qc,.slice ma c.timers.length mc,.int .i64 c.table,.int .u32 c.mask,.int .u32 c.filter,.int .i64 c.charge,.int .u64 c.cycle,.int .u64 c.count]*any) own_left).mono ?_;rintro en w2 ⟨rfl,hs3⟩;generalize w.heap.size=cb at *;clear hC
 by_cases h0:stCh c l=0
 ·have HG:=hid (hG.out h0);have e1:(stCh c l != 0)=false:=by simp [h0]
  have H0:=hid h0;have hq:=hid HG.out.len;clear hG;clear h0;go_wp2_with fail;refine (hR.out HG.out _ _ hs3).mono ?_;rintro en w3 ⟨g,rfl,hs5⟩;clear hs3 hR;obtain ⟨B,hB⟩:∃ B,B=Bk.read (tks0 c) l:=⟨_,rfl⟩;rw [← hB] at hs5 hq;have HB:=hid hB;have hn64:B.ts.length≤64:=by have:=hq.out;have:=HG.out.nt;omega
  clear hB HG hq;obtain ⟨mb,ba,bc,ja,jc,hs6⟩:=bk_out hs5;clear hs5;go_wp2_with fail;refine wp_gen (w0:=w0) ?_;intro wx hsx;clear hs6;have HR : Hid (∀ k,k < B.ts.length → (B.ts.take (k + 1)).map (·.ran) = (B.ts.take k).map (·.ran) ++ [(sg B.ts k).ran]):=fun k hk=>by
   rw [List.take_add_one,List.getElem?_eq_getElem hk,List.map_append];unfold sg;rw [List.getD_eq_getElem?_getD,List.getElem?_eq_getElem hk];rfl
  go_loopw [7,23] (fun nv i wr=>∃ (k : Nat) (na : Option Addr) (nc : Nat) (L : List Int),k ≤ B.ts.length ∧ Hid (L = (B.ts.take k).map (·.ran)) ∧ L.length ≤ 64 ∧ nv = .slice na L.length nc ∧ i = .int .i64 k ∧ Sat w0 wr (numsP .u64 (.slice na L.length nc) L * (recsP (.slice ba B.ts.length bc) B.ts * (F * any)))) (fun _ i _=>B.ts.length - (intOf i).toNat)
  case atStart =>
   refine ⟨0,none,0,[],Nat.zero_le _,rfl,by decide,rfl,rfl,?_⟩;exact Sat.slice_nil 1 (own_left:Sat w0 wx (recsP (.slice ba B.ts.length bc) B.ts*(F*any)))
  case round =>
   obtain ⟨k,na,nc,L,hk,HL,hl2,rfl,rfl,hsr⟩:=hrel;clear hsx
   by_cases hlt:k<B.ts.length
   ·have d1:decide (k<B.ts.length)=true:=decide_eq_true hlt;have i1:(k:Int)<(B.ts.length:Int):=by omega
    obtain ⟨tg,tq,rfl⟩:=recs_at (hsr.pull (Q:=recsP (.slice ba B.ts.length bc) B.ts)) (by omega);have hrow0:=recs_row (hsr.pull (Q:=recsP (.slice (some ⟨tg,tq,none⟩) B.ts.length bc) B.ts)) hlt (rfl:_=sg B.ts k);have hnx:=hid (HR.out k hlt);have hkl:Hid (L.length=k):=by unfold Hid;rw [HL.out,List.length_map,List.length_take];omega
    have hl3:L.length+1≤64:=by have:=hkl.out;omega
    obtain ⟨x,hx⟩:∃ x,x=sg B.ts k:=⟨_,rfl⟩;rw [← hx] at hrow0 hnx;have hrow:wr.rangeAt tg (tq+k*13) (skCells x):=hrow0;clear hx hrow0 hkl;go_wp2_with (first | (refine wpList_load_mid rfl _ _ rfl _ _ rfl _ _ hrow Tryz.underlying100 rfl (by kernel_rfl) ?_) | (refine wpList_store_sat (w0:=w0) (cells:=skCells x) (old:=skZ) rfl rfl rfl rfl own rfl (by kernel_rfl) rfl ?_;intro wS hsS) | (at_builtin;refine wpList_append_nums rfl rfl rfl rfl (by omega) ?_;intro bp bc2 bL bw bhL bh1 bh2 bhs _));clear hsr hrow hsS;go_roundw
    case rel =>
     refine ⟨k+1,bp,bc2,bL,by omega,?_,by omega,rfl,by go_num,own_left⟩;unfold Hid;rw [bhL.out,HL.out,hnx.out]
    case measure=>simp [intOf];omega
   ·have d1:decide (k<B.ts.length)=false:=decide_eq_false hlt;obtain rfl:k=B.ts.length:=by omega
    rw [List.take_length] at HL;clear hlt HR;go_wp2_with fail;go_ret2;obtain rfl:=HB.out;exact .inr ⟨H0.out,na,L,nc,HL.out,rfl,own_left⟩
 ·have e1:(stCh c l != 0)=true:=by simp [h0]
  have H0:=hid h0;clear hG hR h0;go_wp2_with fail;go_ret2;exact .inl ⟨H0.out,rfl,own_left⟩
theorem stTak_ (v u:Value) (c:Cf) (rg:CfRng c) (l:List Ev) (hl:l.length<900000) (hev:∀ e∈l,EvOk e) (w0 w:World) (F:HP) (hr:RdCf w0 v c) (hst:StaysE w0 F u l) (hs:Sat w0 w F) :
  Calls Tryz.prog 13 #[v,u] w (NumsR w0 F c l .i64 (·.tak)):=by
 have hC:=hid (fun (w:World) (G:HP) (h:Sat w0 w (F*G))=>stCheck v u c rg l hl hev w0 w (F*G) hr (fun w hh=>hst w (show Sat w0 w F from own_left)) h);have hR:=hid (fun (g:GoodE c l) (w:World) (G:HP) (h:Sat w0 w (F*G))=>stRead v u c l g.nt g.dl hl g.ck g.ft w0 w (F*G) hr (fun w hh=>hst w (show Sat w0 w F from own_left)) h);have hG:=hid (good_of rg hev (c:=c) (l:=l));obtain ⟨ua,uc,rfl⟩:∃ ua uc,u=.slice ua l.length uc:=by
  obtain ⟨a,cap,b,off,e,_⟩:=hst w hs;exact ⟨a,cap,e⟩
 obtain ⟨ta,la,sa,qa,ma,tc,lc,sc,qc,mc,rfl,h1,h2,h3,h4,h5⟩:=hr.form;clear hr h1 h2 h3 h4 h5 hst hev rg
 go_enter Tryz.func13,Tryz.ntmps13
 go_wp2_with fail;refine (hC.out _ (pts w.heap.size 0 [.slice ta c.ts.length tc,.slice la c.ls.length lc,.int .i64 c.mutexes,.slice sa c.sems.length sc,.slice qa c.queues.length qc,.slice ma c.timers.length mc,.int .i64 c.table,.int .u32 c.mask,.int .u32 c.filter,.int .i64 c.charge,.int .u64 c.cycle,.int .u64 c.count]*any) own_left).mono ?_;rintro en w2 ⟨rfl,hs3⟩;generalize w.heap.size=cb at *;clear hC
 by_cases h0:stCh c l=0
 ·have HG:=hid (hG.out h0);have e1:(stCh c l != 0)=false:=by simp [h0]
  have H0:=hid h0;have hq:=hid HG.out.len;clear hG;clear h0;go_wp2_with fail;refine (hR.out HG.out _ _ hs3).mono ?_;rintro en w3 ⟨g,rfl,hs5⟩;clear hs3 hR;obtain ⟨B,hB⟩:∃ B,B=Bk.read (tks0 c) l:=⟨_,rfl⟩;rw [← hB] at hs5 hq;have HB:=hid hB;have hn64:B.ts.length≤64:=by have:=hq.out;have:=HG.out.nt;omega
  clear hB HG hq;obtain ⟨mb,ba,bc,ja,jc,hs6⟩:=bk_out hs5;clear hs5;go_wp2_with fail;refine wp_gen (w0:=w0) ?_;intro wx hsx;clear hs6;have HR : Hid (∀ k,k < B.ts.length → (B.ts.take (k + 1)).map (·.tak) = (B.ts.take k).map (·.tak) ++ [(sg B.ts k).tak]):=fun k hk=>by
   rw [List.take_add_one,List.getElem?_eq_getElem hk,List.map_append];unfold sg;rw [List.getD_eq_getElem?_getD,List.getElem?_eq_getElem hk];rfl
  go_loopw [7,23] (fun nv i wr=>∃ (k : Nat) (na : Option Addr) (nc : Nat) (L : List Int),k ≤ B.ts.length ∧ Hid (L = (B.ts.take k).map (·.tak)) ∧ L.length ≤ 64 ∧ nv = .slice na L.length nc ∧ i = .int .i64 k ∧ Sat w0 wr (numsP .i64 (.slice na L.length nc) L * (recsP (.slice ba B.ts.length bc) B.ts * (F * any)))) (fun _ i _=>B.ts.length - (intOf i).toNat)
  case atStart =>
   refine ⟨0,none,0,[],Nat.zero_le _,rfl,by decide,rfl,rfl,?_⟩;exact Sat.slice_nil 1 (own_left:Sat w0 wx (recsP (.slice ba B.ts.length bc) B.ts*(F*any)))
  case round =>
   obtain ⟨k,na,nc,L,hk,HL,hl2,rfl,rfl,hsr⟩:=hrel;clear hsx
   by_cases hlt:k<B.ts.length
   ·have d1:decide (k<B.ts.length)=true:=decide_eq_true hlt;have i1:(k:Int)<(B.ts.length:Int):=by omega
    obtain ⟨tg,tq,rfl⟩:=recs_at (hsr.pull (Q:=recsP (.slice ba B.ts.length bc) B.ts)) (by omega);have hrow0:=recs_row (hsr.pull (Q:=recsP (.slice (some ⟨tg,tq,none⟩) B.ts.length bc) B.ts)) hlt (rfl:_=sg B.ts k);have hnx:=hid (HR.out k hlt);have hkl:Hid (L.length=k):=by unfold Hid;rw [HL.out,List.length_map,List.length_take];omega
    have hl3:L.length+1≤64:=by have:=hkl.out;omega
    obtain ⟨x,hx⟩:∃ x,x=sg B.ts k:=⟨_,rfl⟩;rw [← hx] at hrow0 hnx;have hrow:wr.rangeAt tg (tq+k*13) (skCells x):=hrow0;clear hx hrow0 hkl;go_wp2_with (first | (refine wpList_load_mid rfl _ _ rfl _ _ rfl _ _ hrow Tryz.underlying100 rfl (by kernel_rfl) ?_) | (refine wpList_store_sat (w0:=w0) (cells:=skCells x) (old:=skZ) rfl rfl rfl rfl own rfl (by kernel_rfl) rfl ?_;intro wS hsS) | (at_builtin;refine wpList_append_nums rfl rfl rfl rfl (by omega) ?_;intro bp bc2 bL bw bhL bh1 bh2 bhs _));clear hsr hrow hsS;go_roundw
    case rel =>
     refine ⟨k+1,bp,bc2,bL,by omega,?_,by omega,rfl,by go_num,own_left⟩;unfold Hid;rw [bhL.out,HL.out,hnx.out]
    case measure=>simp [intOf];omega
   ·have d1:decide (k<B.ts.length)=false:=decide_eq_false hlt;obtain rfl:k=B.ts.length:=by omega
    rw [List.take_length] at HL;clear hlt HR;go_wp2_with fail;go_ret2;obtain rfl:=HB.out;exact .inr ⟨H0.out,na,L,nc,HL.out,rfl,own_left⟩
 ·have e1:(stCh c l != 0)=true:=by simp [h0]
  have H0:=hid h0;clear hG hR h0;go_wp2_with fail;go_ret2;exact .inl ⟨H0.out,rfl,own_left⟩
end Go.Proofs.YtkeommmigopnkaaGreatDoor
namespace Go.Proofs.YtkeommmigopnkaaGreatDoor
open Go.RowKit Go.Sx Go.Hi
theorem u_next {l m:List Int} (hlen:l.length=m.length) {k:Nat} (hk:k<l.length) (h:l.take k=m.take k) (e:l.getD k 0=m.getD k 0):l.take (k+1)=m.take (k+1):=by
 rw [List.take_succ_eq_append_getElem hk,List.take_succ_eq_append_getElem (by omega),h];have e1:l.getD k 0=l[k]:=by simp [List.getD,hk]
 have e2:m.getD k 0=m[k]:=by simp [List.getD,show k<m.length by omega]
 rw [← e1,← e2,e]
theorem rSame (v u:Value) (l m:List Int) (w:World) (h:RdN .u64 w v l) (hm:RdN .u64 w u m) :
  Calls Tryz.prog 14 #[v,u] w (Drawn (.bool (decide (l=m))) w):=by
 obtain ⟨a,cap,b,off,rfl,hcap,hbig,ha,hc⟩:=h;obtain ⟨la,lcap,lb,loff,rfl,hlcap,hlbig,hla,hlc⟩:=hm;unfold maxLen at hbig hlbig
 by_cases hlen:l.length=m.length
 ·have hb:((l.length:Int) != (m.length:Int))=false:=by simp [hlen]
  have hlen':=hid hlen;clear hlen
  go_enter Tryz.func14,Tryz.ntmps14
  go_wp2_with fail
  go_loopw [5] (fun i wr=>∃ k n:Nat,k≤l.length∧i=.int .i64 k∧l.take k=m.take k∧wr=w.drewN n) (fun i _=>l.length-(intOf i).toNat)
  case atStart=>exact ⟨0,0,Nat.zero_le _,rfl,rfl,rfl⟩
  case round =>
   obtain ⟨k,n,hk,rfl,heq,rfl⟩:=hrel;have heq:=hid heq
   by_cases hlt:k<l.length
   ·have hlt2:k<m.length:=by have:=hlen'.out;omega
    obtain rfl:=ha (by intro h;simp [h] at hlt);obtain rfl:=hla (by intro h;simp [h] at hlt2);have c1:=hc k hlt;have c2:=hlc k hlt2;have hnext:=hid (fun e=>u_next hlen'.out hlt heq.out e);have hne:Hid (l.getD k 0≠m.getD k 0→l≠m):=fun h e=>h (by rw [e]);generalize l.getD k 0=x at c1 hnext hne;generalize m.getD k 0=y at c2 hnext hne;clear hc hlc ha hla
    by_cases hxy:x=y
    ·have hb2:(x != y)=false:=by simp [hxy]
     have hxy:=hid hxy;go_wp2_with fail;go_quiet (fail);go_wp2;go_roundw
     case rel=>exact ⟨k+1,_,by omega,by go_num,hnext.out hxy.out,rfl⟩
     case measure=>simp [intOf];omega
    ·have hb2:(x != y)=true:=by simp [hxy]
     have hd:decide (l=m)=false:=decide_eq_false (hne.out hxy);go_wp2_with fail;go_quiet (fail);go_wp2;go_ret;exact ⟨by rw [hd];rfl,n+nq,by simp⟩
   ·have hd:decide (l=m)=true:=decide_eq_true (by have h1:=heq.out;rw [List.take_of_length_le (by omega),List.take_of_length_le (by have:=hlen'.out;omega)] at h1;exact h1);clear hc hlc ha hla;go_wp2_with fail;go_ret;exact ⟨by rw [hd];rfl,_,rfl⟩
 ·have hb:((l.length:Int) != (m.length:Int))=true:=by simp;omega
  have hd:decide (l=m)=false:=decide_eq_false (fun e=>hlen (by rw [e]));clear hc hlc ha hla
  go_enter Tryz.func14,Tryz.ntmps14
  go_wp2_with fail;go_ret;exact ⟨by rw [hd];rfl,0,rfl⟩
end Go.Proofs.YtkeommmigopnkaaGreatDoor
namespace Go.Proofs.YtkeommmigopnkaaGreatDoor
open Go.RowKit Go.Sx Go.Dl Go.Lk Go.Rq Go.Au Go.Hi Go.St
theorem rSameS (v u:Value) (l m:List Int) (w0 w:World) (P:HP) (hs:Sat w0 w P) (h:RdN .u64 w v l) (hm:RdN .u64 w u m) :
  Calls Tryz.prog 14 #[v,u] w (RetV w0 (.bool (decide (l=m))) P) :=
 (rSame v u l m w h hm).mono (by rintro e w' ⟨rfl,n,rfl⟩;exact ⟨rfl,hs.drewN n⟩)
theorem ranW (v u:Value) (c:Cf) (rg:CfRng c) (l:List Ev) (hev:∀ e∈l,EvOk e) (w0:World) (hr:RdCf w0 v c) (hu:RdR w0 u l) (hT:Tab w0) :
  Calls Tryz.prog 5 #[v,u] w0 (RetV w0 (.bool true) emp):=by
 have hs:=Sat.start w0;have hA:=hid (fun (w:World) (h:Sat w0 w any)=>lawAwake28 w (hT.later h));have hF:=hid (fun (w:World) (h:Sat w0 w any)=>hFew v u c l w (hr.later h) (hu.later h));have hC:=hid (fun (hl:l.length≤600) (w:World) (G:HP) (h:Sat w0 w G)=>rCheck v u c rg l (by omega) hev w0 w G hr (staysE_old hu) h);have hJ:=hid (fun (hl:l.length≤600) (w:World) (G:HP) (h:Sat w0 w G)=>stRan_ v u c rg l (by omega) hev w0 w G hr (staysE_old hu) h);have hK:=hid (fun (hl:l.length≤600) (w:World) (G:HP) (h:Sat w0 w G)=>stTak_ v u c rg l (by omega) hev w0 w G hr (staysE_old hu) h);have HGe:=hid (fun (h:stCh c l=0)=>good_of rg hev h);have hR:=hid (fun (G:GoodE c l) (hf:FewP l) (w:World) (F:HP) (h:Sat w0 w F)=>rRead v u c l G (span_of G hf) hf.1 w0 w F hr hu h);obtain ⟨ua,uc,rfl⟩:∃ ua uc,u=.slice ua l.length uc:=by
  obtain ⟨a,cap,b,off,e,_⟩:=hu;exact ⟨a,cap,e⟩
 have hcap:=hu.caps;unfold maxLen at hcap;haveI:OldRec w0 encEv (.slice ua l.length uc) l:=⟨hu⟩;obtain ⟨ta,la,sa,qa,ma,tc,lc,sc,qc,mc,rfl,h1,h2,h3,h4,h5⟩:=hr.form;clear hr hu h1 h2 h3 h4 h5 hT hev rg
 go_enter Tryz.func5,Tryz.ntmps5
 go_wp2_with fail;refine (hA.out _ own_left).mono ?_;rintro en w1 ⟨rfl,hp⟩;have hs1:=Sat.past (w0:=w0) own_it hp;clear hp hs;go_wp2_with fail;refine (hF.out _ own_left).mono ?_;rintro en w2 ⟨z,rfl,hp,hz⟩;have hs2:=Sat.past (w0:=w0) own_it hp;clear hp hs1 hF
 cases z
 ·clear hz;go_wp2_with fail;refine (hA.out _ own_left).mono ?_;rintro en w9 ⟨rfl,hp⟩;have hs9:=Sat.past (w0:=w0) own_it hp;clear hp;go_wp2_with fail;go_ret;exact ⟨rfl,own_left⟩
 have Hfew:=hid (hz rfl);have H6:=hid Hfew.out.1;have hl6:l.length≤600:=Hfew.out.1;clear hz;go_wp2_with fail;generalize w0.heap.size=cb at *;refine (hJ.out H6.out _ _ own_it).mono ?_;rintro en w3 hJ1;clear hJ
 rcases hJ1 with ⟨h0,rfl,hs3⟩ | ⟨h0,aa,A,ka,hA1,rfl,hs3⟩
 ·clear hR HGe hs2;go_wp2_with fail;refine (hK.out H6.out _ _ own_it).mono ?_;rintro en w4 hK1;clear hK
  rcases hK1 with ⟨_,rfl,hs4⟩ | ⟨h1,_⟩
  ·clear hs3;obtain ⟨x,hx⟩:∃ x,x=stCh c l:=⟨_,rfl⟩;rw [← hx] at hC h0;simp only [← hx];clear hx;have e0:(x != 0)=true:=by simp [h0]
   have e1:(x != x)=false:=by simp
   have e2:(x==x)=true:=by simp
   clear h0;go_wp2_with fail;refine (hC.out H6.out _ _ own_it).mono ?_;rintro en w5 ⟨rfl,hs5⟩;clear hs4;go_wp2_with fail;go_ret;exact ⟨rfl,own_left⟩
  ·exact absurd h1 h0
 ·have HA1:=hid hA1;clear hs2 hA1;go_wp2_with fail;refine (hK.out H6.out _ _ own_it).mono ?_;rintro en w4 hK1;clear hK
  rcases hK1 with ⟨h1,_⟩ | ⟨_,ba,B,kb,hB1,rfl,hs4⟩
  ·exact absurd h0 h1
  ·have hG:=hid (HGe.out h0);have hR:=hid (hR.out hG.out Hfew.out);rw [h0] at hC;have HB1:=hid hB1;clear h0 hs3 hB1;go_wp2_with fail;refine (hC.out H6.out _ _ own_it).mono ?_;rintro en w5 ⟨rfl,hs5⟩;clear hs4;go_wp2_with fail;refine (hR.out _ _ own_it).mono ?_;rintro en w6 ⟨g,RR,rfl,hRR,hs6⟩;clear hs5;have hjj:=hRR.ran;have hkk:=hRR.tak;rw [← HA1.out] at hjj;rw [← HB1.out] at hkk;obtain ⟨ja,jc,ra3,rc3,ka3,kc3,ea3,ec3,hs7⟩:=rb_out hs6;rw [hjj,hkk] at hs7;clear hs6 hjj hkk hRR;go_wp2_with fail;refine (rSameS (.slice aa A.length ka) (.slice ra3 A.length rc3) A A w0 _ _ hs7 rd rd).mono ?_;rintro en w8 ⟨rfl,hs8⟩;clear hs7;rw [decide_eq_true rfl];go_wp2_with fail;refine (intsS (.slice ba B.length kb) (.slice ka3 B.length kc3) B B w0 _ _ hs8 rd rd).mono ?_;rintro en w9 ⟨rfl,hs9⟩;clear hs8;rw [decide_eq_true rfl];go_wp2_with fail;go_ret;exact ⟨rfl,own_left⟩
theorem statRan_walk (v0:Value) (c:Cf) (v1:Value) (n1:Nat) (f1:Nat→Nat→Int) (w0:World) (hr:RdCf w0 v0 c) (rg:CfRng c) (h1:RdK kEv w0 v1 n1 f1) (hT:Tab w0) :
  Calls Tryz.prog 5 #[v0,v1] w0 (RetV w0 (.bool true) emp):=by
 obtain ⟨l,_,hu,hev⟩:=evs_of_RdK h1;exact ranW v0 v1 c rg l hev w0 hr hu hT
end Go.Proofs.YtkeommmigopnkaaGreatDoor
