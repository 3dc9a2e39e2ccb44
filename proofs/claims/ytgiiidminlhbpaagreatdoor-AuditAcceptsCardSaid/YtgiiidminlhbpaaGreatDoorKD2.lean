/-
  Parts of the proof: WaitB WaitE Sema Mail MailB MailC MailE LockP RegionC LockA LockB LockC.
-/
import Derived.Deep.DeepCutAuto
import Derived.Deep.CutBlock
import Derived.StillTailTactics
import Derived.BigQuiet
import Derived.Handy
import Derived.WalkMore
import Derived.Test.YtgiiidminlhbpaaGreatDoorKD0
import Derived.Test.YtgiiidminlhbpaaGreatDoorKD1
set_option linter.unusedVariables false
set_option linter.unusedSimpArgs false
set_option maxHeartbeats 32000000
set_option maxRecDepth 100000
namespace Go.Proofs.YtgiiidminlhbpaaGreatDoor
open Go.RowKit Go.Sx
theorem zb2 (b o:Nat) (l:List Int) (t:Int) (w0 w:World) (F:HP) (hs:Sat w0 w (zY b o l*F)) (hn:t ∉ l) :
  Calls Tryz.prog 107 #[.pointer (some ⟨b,o,none⟩),.int .i64 t] w fun e w'=>e=.returned (.bool false)∧w=w':=by
 have hd:decide (t∈l)=false:=by simp [hn]
 go_enter Tryz.func107,Tryz.ntmps107
 go_wp2_with fail;refine (z7G b o l t _ _ _ hs).mono ?_;rintro e w' ⟨rfl,rfl⟩;rw [hd];go_wp2;go_ret;exact ⟨rfl,rfl⟩
theorem z4W (b o:Nat) (l:List Int) (t:Int) (w0 w:World) (F:HP) (hs:Sat w0 w (zY b o l*F)) (hn:t∈l) (hl:l.length≤1000000) :
  Calls Tryz.prog 107 #[.pointer (some ⟨b,o,none⟩),.int .i64 t] w (zp w0 (.bool true) (zY b o (l.erase t)*F)):=by
 obtain ⟨v,hs1⟩:=hs.ex_out;have hs2:=hs1.perm (by ac_rfl:_=z5 .i64 v l*(pts b o [v]*F));have hs3:=hs1.perm (by ac_rfl:_=pts b o [v]*(z5 .i64 v l*F));have c0:=hs3.c0;have hr:=hs2.rdN;have hk:l.idxOf t<l.length:=List.idxOf_lt_length_iff.2 hn;have hi:idx l t=(l.idxOf t:Int):=by unfold idx;rw [if_pos hn]
 have hb:(l.idxOf t:Int)≤1000000:=by omega
 have hd:decide (t∈l)=true:=by simp [hn]
 have he:l.eraseIdx (l.idxOf t)=l.erase t:=by rw [List.erase_eq_eraseIdx_of_idxOf rfl]
 go_enter Tryz.func107,Tryz.ntmps107
 go_wp2_with fail;refine (z7G b o l t _ _ _ hs).mono ?_;rintro e w' ⟨rfl,rfl⟩;rw [hd];clear hd;go_wp2_with fail;refine (z7J v l t _ hr).mono ?_;rintro e w' ⟨rfl,rfl⟩;rw [hi];clear hi;generalize l.idxOf t=k at hk hb he ⊢;have he:=hid he;go_wp2_with fail;refine (zb9 v l k _ _ _ hs2 hk hl _ rfl).mono ?_;rintro e w' ⟨v',rfl,hs'⟩;generalize l.eraseIdx k=L at hs' he;obtain ⟨a',cap',rfl⟩:=hs'.slice_form;have hs4:=hs'.perm (by ac_rfl:_=pts b o [v]*(z5 .i64 (.slice a' L.length cap') L*F));have c0':=hs4.c0;have f0':=hs4.f0;go_wp2;go_ret;rw [← he.out];exact ⟨rfl,z4t (v:=.slice a' L.length cap') (hs4.set0 _)⟩
def zd8 (lv:List Int) (t:Int):Int:=lv.getD t.toNat 0
def zF (lv:List Int) (best t:Int):Int:=if t<lv.length∧((lv.length:Int)≤best∨zd8 lv t<zd8 lv best) then t else best
def zD (lv:List Int):List Int→Int
 | []=>0
 | t::r=>r.foldl (zF lv) t
theorem z8b (lv:List Int):∀ (r:List Int) (t:Int),r.foldl (zF lv) t=t∨r.foldl (zF lv) t∈r
 | [],t=>.inl rfl
 | x::r,t=>by
  rw [List.foldl_cons]
  rcases z8b lv r (zF lv t x) with h | h
  ·rw [h];unfold zF
   split
   ·exact .inr (by simp)
   ·exact .inl rfl
  ·exact .inr (by simp [h])
theorem zb0 (b o:Nat) (lv:Value) (w0 w:World) (F:HP) (hs:Sat w0 w (zY b o []*F)) :
  Calls Tryz.prog 110 #[.pointer (some ⟨b,o,none⟩),lv] w fun e w'=>e=.returned (.tuple #[.int .i64 0,.bool false])∧w=w':=by
 obtain ⟨v,hs1⟩:=hs.ex_out;have c0:=(hs1.perm (by ac_rfl:_=pts b o [v]*(z5 .i64 v []*F))).c0;obtain ⟨a,cap,rfl⟩:=(hs1.perm (by ac_rfl:_=z5 .i64 v []*(pts b o [v]*F))).slice_form
 go_enter Tryz.func110,Tryz.ntmps110
 go_wp2;go_ret2;exact ⟨rfl,rfl⟩
theorem z8L (lv:List Int) (r:List Int) (t0:Int) (h0:0≤t0) (h:∀ t∈r,0≤t) (k:Nat):0≤(r.take k).foldl (zF lv) t0:=by
 rcases z8b lv (r.take k) t0 with e | e
 ·rw [e];exact h0
 ·exact h _ (List.mem_of_mem_take e)
theorem za6 (f:Int→Int→Int) (r:List Int) (t0:Int) (k m:Nat) (hk:k<r.length) (hm:r.getD k 0=m):(r.take (k+1)).foldl f t0=f ((r.take k).foldl f t0) m:=by
 have e:r[k]=(m:Int):=by rw [← hm];simp [List.getD,hk]
 rw [List.take_succ_eq_append_getElem hk,List.foldl_append,e];rfl
theorem z1P {κ:IntKind} {a b:Int} (h:a=b):Value.int κ a=Value.int κ b:=by rw [h]
def z9P (v:Value) (w:World) (e:Ending) (w':World):Prop:=e=.returned v∧∃ n,w'=w.drewN n
theorem zb1 (b o:Nat) (t0:Int) (r:List Int) (lv:Value) (levels:List Int) (w0 w:World) (F:HP) (hs:Sat w0 w (zY b o (t0::r)*F)) (hlv:RdN .i64 w lv levels) (hok:∀ t∈t0::r,0≤t) (hl:r.length≤1000000) :
  Calls Tryz.prog 110 #[.pointer (some ⟨b,o,none⟩),lv] w (z9P (.tuple #[.int .i64 (zD levels (t0::r)),.bool true]) w):=by
 obtain ⟨v,hs1⟩:=hs.ex_out;have c0:=(hs1.perm (by ac_rfl:_=pts b o [v]*(z5 .i64 v (t0::r)*F))).c0;obtain ⟨a,cap,g,off,rfl,hcap,hbig,ha,hc⟩:=(hs1.perm (by ac_rfl:_=z5 .i64 v (t0::r)*(pts b o [v]*F))).rdN;obtain rfl:=ha (by simp);obtain ⟨la,lcap,lb,loff,rfl,hlcap,hlbig,hla,hlc⟩:=hlv;unfold maxLen at hbig hlbig;have hc0:w.cell? ⟨g,off,none⟩=some (.int .i64 t0):=hc 0 (by simp);simp only [List.length_cons] at hcap hc c0 ⊢;have hr1:∀ k,k<r.length→w.cell? ⟨g,off+1+k,none⟩=some (.int .i64 (r.getD k 0)):=fun k hk=>by
  have:=hc (k+1) (by omega);rw [show off+(k+1)=off+1+k by omega] at this
  simpa using this
 clear hc
 by_cases h1:cap=1
 ·have hr0:r=[]:=List.eq_nil_of_length_eq_zero (by omega);subst hr0;subst h1;clear hr1
  go_enter Tryz.func110,Tryz.ntmps110
  go_wp2_with fail
  go_loopw [6,31] (fun bst i wr=>i=.int .i64 0∧bst=.int .i64 t0∧wr=w) (fun _ _ _=>0)
  case atStart=>exact ⟨rfl,rfl,rfl⟩
  case round =>
   obtain ⟨rfl,rfl,rfl⟩:=hrel;go_wp2;go_ret2;exact ⟨rfl,0,rfl⟩
 ·have h0:0≤t0:=hok t0 (by simp);have hok':∀ t∈r,0≤t:=fun t ht=>hok t (by simp [ht])
  go_enter Tryz.func110,Tryz.ntmps110
  go_wp2_with fail
  go_loopw [6,31] (fun bst i wr=>∃ k n:Nat,k≤r.length∧i=.int .i64 k∧bst=.int .i64 ((r.take k).foldl (zF levels) t0)∧wr=w.drewN n) (fun _ i _=>r.length-(intOf i).toNat)
  case atStart=>exact ⟨0,0,Nat.zero_le _,rfl,rfl,rfl⟩
  case round =>
   obtain ⟨k,n,hk,rfl,rfl,rfl⟩:=hrel
   by_cases hlt:k<r.length
   ·obtain ⟨m,hm⟩:=Int.eq_ofNat_of_zero_le (hok' (r.getD k 0) (by simp [List.getD,hlt]));obtain ⟨q,hq⟩:=Int.eq_ofNat_of_zero_le (z8L levels r t0 h0 hok' k);have hcell:w.cell? ⟨g,off+1+k,none⟩=some (.int .i64 (m:Int)):=by rw [← hm];exact hr1 k hlt
    have hnext:=hid (za6 (zF levels) r t0 k m hlt hm);have hq':=hid hq;rw [hq];clear hr1 hm hq hok hok' hs hs1 c0 hc0
    by_cases c1:m<levels.length
    ·obtain rfl:=hla (by intro e;simp [e] at c1);have d1:decide (m<levels.length)=true:=by simp [c1]
     have l1:=hlc m c1
     by_cases c2:levels.length≤q
     ·have d2:decide (levels.length≤q)=true:=by simp [c2]
      clear hlc hla;go_wp2_with fail;go_quiet (fail);go_wp2;go_roundw
      case rel=>exact ⟨k+1,_,by omega,by go_num,z1P (by rw [hnext.out,hq'.out];unfold zF;rw [if_pos ⟨by omega,.inl (by omega)⟩]),rfl⟩
      case measure=>simp [intOf];omega
     ·have d2:decide (levels.length≤q)=false:=by simp;omega
      have l2:=hlc q (by omega);have e1:zd8 levels (m:Int)=levels.getD m 0:=rfl;have e2:zd8 levels (q:Int)=levels.getD q 0:=rfl;generalize levels.getD m 0=x at l1 e1;generalize levels.getD q 0=y at l2 e2;have e1:=hid e1;have e2:=hid e2;clear hlc hla
      by_cases hxy:x<y
      ·have d3:decide (x<y)=true:=by simp [hxy]
       go_wp2_with fail;go_quiet (fail);go_wp2;go_roundw
       case rel=>exact ⟨k+1,_,by omega,by go_num,z1P (by rw [hnext.out,hq'.out];unfold zF;rw [if_pos ⟨by omega,.inr (by rw [e1.out,e2.out];exact hxy)⟩]),rfl⟩
       case measure=>simp [intOf];omega
      ·have d3:decide (x<y)=false:=by simp;omega
       go_wp2_with fail;go_quiet (fail);go_wp2;go_roundw
       case rel=>exact ⟨k+1,_,by omega,by go_num,z1P (by rw [hnext.out,hq'.out];unfold zF;rw [if_neg (by rw [e1.out,e2.out];omega)]),rfl⟩
       case measure=>simp [intOf];omega
    ·have d1:decide (m<levels.length)=false:=by simp;omega
     clear hlc hla;go_wp2_with fail;go_quiet (fail);go_wp2;go_roundw
     case rel=>exact ⟨k+1,_,by omega,by go_num,z1P (by rw [hnext.out,hq'.out];unfold zF;rw [if_neg (by omega)]),rfl⟩
     case measure=>simp [intOf];omega
   ·have hk':r.take k=r:=List.take_of_length_le (by omega);rw [hk'];clear hr1 hlc hla hs hs1 hc0 c0;go_wp2;go_ret2;exact ⟨rfl,n,rfl⟩
def z1z (lv:List Int) (t b:Int):Prop:=t<lv.length∧((lv.length:Int)≤b∨zd8 lv t<zd8 lv b)
theorem z2v (lv:List Int) (b t:Int):zF lv b t=t∧z1z lv t b∨zF lv b t=b∧¬ z1z lv t b:=by
 unfold zF z1z
 split
 ·exact .inl ⟨rfl,by assumption⟩
 ·exact .inr ⟨rfl,by assumption⟩
theorem z6G {lv:List Int} {a b c:Int} (h1:z1z lv a b) (h2:z1z lv b c):z1z lv a c:=by
 unfold z1z at *;exact ⟨h1.1,by rcases h1.2 with h | h<;>rcases h2.2 with h' | h'<;>omega⟩
theorem zeF {lv:List Int} {a b c:Int} (h1:z1z lv a b) (h2:¬ z1z lv c b):z1z lv a c:=by
 unfold z1z at *;obtain ⟨h3,h4⟩:=h1;refine ⟨h3,?_⟩
 by_cases hc:c<lv.length
 ·rcases h4 with h | h
  ·exact absurd ⟨hc,.inl h⟩ h2
  ·right
   by_cases h5:zd8 lv c<zd8 lv b
   ·exact absurd ⟨hc,.inr h5⟩ h2
   ·omega
 ·left;omega
theorem zdG (lv:List Int):∀ (r:List Int) (t:Int), ∃ A C,t::r=A++r.foldl (zF lv) t::C∧(∀ x∈A,z1z lv (r.foldl (zF lv) t) x)∧∀ x∈C, ¬ z1z lv x (r.foldl (zF lv) t):=by
 have key:∀ (r:List Int) (A C:List Int) (t:Int),(∀ x∈A,z1z lv t x)→(∀ x∈C, ¬ z1z lv x t) →
   ∃ A' C',A++t::C++r=A'++r.foldl (zF lv) t::C'∧(∀ x∈A',z1z lv (r.foldl (zF lv) t) x)∧∀ x∈C', ¬ z1z lv x (r.foldl (zF lv) t):=by
  intro r
  induction r with
  | nil=>intro A C t ha hc;exact ⟨A,C,by simp,ha,hc⟩
  | cons y r ih =>
   intro A C t ha hc;rw [List.foldl_cons]
   rcases z2v lv t y with ⟨e,hb⟩ | ⟨e,hb⟩
   ·rw [e];obtain ⟨A',C',e1,e2,e3⟩:=ih (A++t::C) [] y (fun x hx=>by
     rcases List.mem_append.1 hx with h | h
     ·exact z6G hb (ha x h)
     ·rcases List.mem_cons.1 h with rfl | h
      ·exact hb
      ·exact zeF hb (hc x h)) (fun x hx=>by cases hx)
    exact ⟨A',C',by rw [← e1];simp,e2,e3⟩
   ·rw [e];obtain ⟨A',C',e1,e2,e3⟩:=ih A (C++[y]) t ha (fun x hx=>by
     rcases List.mem_append.1 hx with h | h
     ·exact hc x h
     ·simp at h;rw [h];exact hb)
    exact ⟨A',C',by rw [← e1];simp,e2,e3⟩
 intro r t
 simpa using key r [] [] t (fun x hx=>by cases hx) (fun x hx=>by cases hx)
theorem z8c (lv:List Int) (l:List Int) (h:l≠[]):∃ A C,l=A++zD lv l::C∧(∀ x∈A,z1z lv (zD lv l) x)∧∀ x∈C, ¬ z1z lv x (zD lv l):=by
 cases l with
 | nil=>exact absurd rfl h
 | cons t r=>exact zdG lv r t
theorem z1n (lv l:List Int) (h:l≠[]):zD lv l∈l:=by
 obtain ⟨A,C,e,_,_⟩:=z8c lv l h;generalize zD lv l=b at e ⊢;rw [e];simp
def z1h (l:List Int) (t:Int):List Int:=if z65 l t then l++[t] else l
theorem z4B {l:List Int} (h:z2F l) (t:Int):z2F (z1h l t):=by
 unfold z1h
 split
 ·rename_i hc
  obtain ⟨h1,h2,h3⟩:=hc;refine ⟨List.nodup_append.2 ⟨h.1,by simp,fun a ha b hb=>by simp at hb;rintro rfl;exact h3 (hb ▸ ha)⟩,fun x hx=>?_⟩
  rcases List.mem_append.1 hx with hx | hx
  ·exact h.2 x hx
  ·simp at hx;omega
 ·exact h
theorem z2k:z2F []:=⟨by simp,fun t h=>by cases h⟩
theorem z1E {l:List Int} (h:z2F l) (t:Int):z2F (l.erase t):=⟨h.1.erase t,fun x hx=>h.2 x (List.mem_of_mem_erase hx)⟩
theorem zmz (b o:Nat) (l:List Int) (t:Int) (w0 w:World) (F:HP) (hs:Sat w0 w (zY b o l*F)) (hl:z2F l) :
  Calls Tryz.prog 160 #[.pointer (some ⟨b,o,none⟩),.int .i64 t] w (zp w0 (.int .i64 (if z65 l t then 0 else 1)) (zY b o (z1h l t)*F)):=by
 by_cases h:z65 l t
 ·have e:z1h l t=l++[t]:=if_pos h;rw [e,if_pos h];exact z8x b o l t w0 w F hs h (by have:=z0J hl;omega)
 ·have e:z1h l t=l:=if_neg h;rw [e,if_neg h];exact (zgq b o l t w0 w F hs h).mono fun e w' ⟨h1,h2⟩=>⟨h1,h2 ▸ hs⟩
theorem z2l (b o:Nat) (l:List Int) (t:Int) (w0 w:World) (F:HP) (hs:Sat w0 w (zY b o l*F)) (hl:z2F l) :
  Calls Tryz.prog 107 #[.pointer (some ⟨b,o,none⟩),.int .i64 t] w (zp w0 (.bool (decide (t∈l))) (zY b o (l.erase t)*F)):=by
 by_cases h:t∈l
 ·rw [decide_eq_true h];exact z4W b o l t w0 w F hs h (by have:=z0J hl;omega)
 ·rw [decide_eq_false h,List.erase_of_not_mem h];exact (zb2 b o l t w0 w F hs h).mono fun e w' ⟨h1,h2⟩=>⟨h1,h2 ▸ hs⟩
theorem z3e (b o:Nat) (l:List Int) (lv:Value) (levels:List Int) (w0 w:World) (F:HP) (hs:Sat w0 w (zY b o l*F)) (hlv:RdN .i64 w lv levels) (hl:z2F l) :
  Calls Tryz.prog 110 #[.pointer (some ⟨b,o,none⟩),lv] w (z9P (.tuple #[.int .i64 (zD levels l),.bool (decide (l≠[]))]) w):=by
 cases l with
 | nil=>exact (zb0 b o lv w0 w F hs).mono fun e w' ⟨h1,h2⟩=>⟨h1,0,h2.symm⟩
 | cons t r =>
  rw [decide_eq_true (by simp:t::r≠[])];exact zb1 b o t r lv levels w0 w F hs hlv (fun x hx=>(hl.2 x hx).1) (by have:=z0J hl;simp at this;omega)
def z3f (b:Nat) (u:Int) (l:List Int):HP:=pts b 0 [.int .i64 u]*zY b 1 l
structure z1L (u:Int) (l:List Int):Prop where
 lo:0≤u
 hi:u≤255
 row:z2F l
 rest:0<u→l=[]
def zj2 (l:List Int) (t:Int):Int:=if z65 l t then 0 else 1
theorem z9y (b o:Nat) (l:List Int) (t:Int) (w0 w:World) (F:HP) (hs:Sat w0 w (zY b o l*F)) (hl:z2F l) :
  Calls Tryz.prog 160 #[.pointer (some ⟨b,o,none⟩),.int .i64 t] w (zp w0 (.int .i64 (zj2 l t)) (zY b o (z1h l t)*F)):=zmz b o l t w0 w F hs hl
def z3t (u:Int):Int:=if u=0 then 8 else 0
def z2W (u:Int):Int:=if u=0 then u else u-1
def awaitE (u:Int) (l:List Int) (t:Int):Int:=if 0<u then 1 else zj2 l t
def z4f (u:Int) (l:List Int) (t:Int):List Int:=if 0<u then l else z1h l t
def z7s (lv l:List Int):Int:=if l≠[] then zD lv l else 255
def postE (u:Int) (l:List Int):Int:=if l≠[] then 0 else if u=255 then 7 else 0
def z1Z (u:Int) (l:List Int):Int:=if l≠[] then u else if u=255 then u else u+1
def z2I (lv l:List Int):List Int:=if l≠[] then l.erase (zD lv l) else l
theorem z5H {u:Int} {l:List Int} (h:z1L u l):z1L (z2W u) l:=by
 have:=h.lo;have:=h.hi;unfold z2W
 split
 ·exact h
 ·exact ⟨by omega,by omega,h.row,fun h'=>h.rest (by omega)⟩
theorem zck {u:Int} {l:List Int} (h:z1L u l) (t:Int):z1L u (z4f u l t):=by
 unfold z4f
 split
 ·exact h
 ·exact ⟨h.lo,h.hi,z4B h.row t,fun h'=>absurd h' (by assumption)⟩
theorem z5G {u:Int} {l:List Int} (h:z1L u l) (lv:List Int):z1L (z1Z u l) (z2I lv l):=by
 have:=h.lo;have:=h.hi;unfold z1Z z2I
 by_cases hl:l=[]
 ·simp only [hl,ne_eq,not_true_eq_false,if_false]
  split
  ·exact ⟨h.lo,h.hi,z2k,fun _=>rfl⟩
  ·exact ⟨by omega,by omega,z2k,fun _=>rfl⟩
 ·have hu:¬ 0<u:=fun h'=>hl (h.rest h');simp only [ne_eq,hl,not_false_eq_true,if_true];exact ⟨h.lo,h.hi,z1E h.row _,fun h'=>absurd h' hu⟩
theorem zb3 {u:Int} {l:List Int} (h:z1L u l) (t:Int):z1L u (l.erase t):=⟨h.lo,h.hi,z1E h.row t,fun h'=>by rw [h.rest h'];rfl⟩
theorem ziu {w0 w:World} {F:HP} (u:Int) (hs:Sat w0 w F) (t:TypeId):Sat w0 (w.alloc (.cells #[.int .i64 u,.slice none 0 0] t)) (z3f w.heap.size u []*F):=by
 have h1:Sat w0 _ (pts w.heap.size 0 [.int .i64 u,.slice none 0 0]*F):=hs.alloc #[.int .i64 u,.slice none 0 0] t;rw [z2A] at h1;have h2:=(h1.slice_nil 1).perm (by ac_rfl:_=pts w.heap.size (0+1) [.slice none 0 0]*(zX 1 (.slice none 0 0) 0 []*(pts w.heap.size 0 [.int .i64 u]*F)));have h3:Sat w0 _ (zY w.heap.size 1 []*(pts w.heap.size 0 [.int .i64 u]*F)):=z4t (v:=.slice none 0 0) h2;exact h3.perm (by unfold z3f;ac_rfl)
theorem zen (u:Int) (w0 w:World) (F:HP) (hs:Sat w0 w F) (h:0≤u∧u≤255) :
  Calls Tryz.prog 44 #[.int .i64 u] w (zp w0 (.tuple #[.pointer (some ⟨w.heap.size,0,none⟩),.int .i64 0]) (z3f w.heap.size u []*F)):=by
 have d:decide (u<0)=false:=by simp;omega
 have d2:decide ((255:Int)<u)=false:=by simp;omega
 have hs1:=ziu u hs 164
 go_enter Tryz.func44,Tryz.ntmps44
 go_wp2;go_ret2;exact ⟨rfl,hs1⟩
theorem zgw (b:Nat) (u:Int) (l:List Int) (w0 w:World) (F:HP) (hs:Sat w0 w (z3f b u l*F)) (hok:z1L u l) :
  Calls Tryz.prog 153 #[.pointer (some ⟨b,0,none⟩)] w (zp w0 (.int .i64 (z3t u)) (z3f b (z2W u) l*F)):=by
 have hs1:=hs.perm (by unfold z3f;ac_rfl:_=pts b 0 [.int .i64 u]*(zY b 1 l*F));have c0:=hs1.c0;have f0:=hs1.f0;have:=hok.lo;have:=hok.hi;unfold z3t z2W
 by_cases h:u=0
 ·rw [if_pos h,if_pos h];subst h
  go_enter Tryz.func153,Tryz.ntmps153
  go_wp2;go_ret;exact ⟨rfl,hs⟩
 ·rw [if_neg h,if_neg h];have d:(u==0)=false:=by simp [h]
  go_enter Tryz.func153,Tryz.ntmps153
  go_wp2;go_ret;exact ⟨rfl,(hs1.set0 (.int .i64 (u-1))).perm (by unfold z3f;ac_rfl)⟩
theorem zem (b:Nat) (u:Int) (l:List Int) (t:Int) (w0 w:World) (F:HP) (hs:Sat w0 w (z3f b u l*F)) (hok:z1L u l) :
  Calls Tryz.prog 154 #[.pointer (some ⟨b,0,none⟩),.int .i64 t] w (zp w0 (.int .i64 (awaitE u l t)) (z3f b u (z4f u l t)*F)):=by
 have hs1:=hs.perm (by unfold z3f;ac_rfl:_=pts b 0 [.int .i64 u]*(zY b 1 l*F));have c0:=hs1.c0;unfold awaitE z4f
 by_cases h:0<u
 ·rw [if_pos h,if_pos h];have d:decide (0<u)=true:=by simp [h]
  go_enter Tryz.func154,Tryz.ntmps154
  go_wp2;go_ret;exact ⟨rfl,hs⟩
 ·rw [if_neg h,if_neg h];have d:decide (0<u)=false:=by simp;omega
  go_enter Tryz.func154,Tryz.ntmps154
  go_wp2_with fail;refine (z9y b 1 l t w0 _ _ (hs1.perm (by ac_rfl:_=zY b 1 l*(pts b 0 [.int .i64 u]*F))) hok.row).mono ?_;rintro e w' ⟨rfl,hs2⟩;go_wp2_with fail;go_ret;exact ⟨rfl,hs2.perm (by unfold z3f;ac_rfl)⟩
theorem zgv (b:Nat) (u:Int) (l:List Int) (lv:Value) (levels:List Int) (w0 w:World) (F:HP) (hs:Sat w0 w (z3f b u l*F)) (hlv:RdN .i64 w lv levels) (hok:z1L u l) :
  Calls Tryz.prog 92 #[.pointer (some ⟨b,0,none⟩),lv] w (zp w0 (.tuple #[.int .i64 (z7s levels l),.int .i64 (postE u l)]) (z3f b (z1Z u l) (z2I levels l)*F)):=by
 have hs1:=hs.perm (by unfold z3f;ac_rfl:_=zY b 1 l*(pts b 0 [.int .i64 u]*F));have:=hok.lo;have:=hok.hi;unfold z7s postE z1Z z2I
 by_cases h:l=[]
 ·subst h;simp only [ne_eq,not_true_eq_false,if_false]
  by_cases hu:u=255
  ·rw [if_pos hu,if_pos hu];subst hu
   go_enter Tryz.func92,Tryz.ntmps92
   go_wp2_with fail;refine (z3e b 1 [] lv levels w0 _ _ hs1 hlv hok.row).mono ?_;rintro e w' ⟨rfl,n,rfl⟩;have hs2:=(hs1.drewN n).perm (by ac_rfl:_=pts b 0 [.int .i64 255]*(zY b 1 []*F));have c0:=hs2.c0;go_wp2_with fail;go_ret2;exact ⟨rfl,hs2.perm (by unfold z3f;ac_rfl)⟩
  ·rw [if_neg hu,if_neg hu];have d:(u==255)=false:=by simp [hu]
   go_enter Tryz.func92,Tryz.ntmps92
   go_wp2_with fail;refine (z3e b 1 [] lv levels w0 _ _ hs1 hlv hok.row).mono ?_;rintro e w' ⟨rfl,n,rfl⟩;have hs2:=(hs1.drewN n).perm (by ac_rfl:_=pts b 0 [.int .i64 u]*(zY b 1 []*F));have c0:=hs2.c0;have f0:=hs2.f0;have hs3:=hs2.set0 (.int .i64 (u+1));generalize w.drewN n=w2 at *;go_wp2_with fail;go_ret2;exact ⟨rfl,hs3.perm (by unfold z3f;ac_rfl)⟩
 ·simp only [ne_eq,h,not_false_eq_true,if_true];have hd:decide (l≠[])=true:=by simp [h]
  go_enter Tryz.func92,Tryz.ntmps92
  go_wp2_with fail;refine (z3e b 1 l lv levels w0 _ _ hs1 hlv hok.row).mono ?_;rintro e w' ⟨rfl,n,rfl⟩;rw [hd];clear hd;have hs2:=hs1.drewN n;have hin:=z1n levels l h;generalize zD levels l=t at *;generalize w.drewN n=w2 at *;go_wp2_with fail;refine (z4W b 1 l t w0 _ _ hs2 hin (by have:=z0J hok.row;omega)).mono ?_;rintro e w' ⟨rfl,hs3⟩;go_wp2_with fail;go_ret2;exact ⟨rfl,hs3.perm (by unfold z3f;ac_rfl)⟩
theorem zcj (b:Nat) (u:Int) (l:List Int) (t:Int) (w0 w:World) (F:HP) (hs:Sat w0 w (z3f b u l*F)) (hok:z1L u l) :
  Calls Tryz.prog 88 #[.pointer (some ⟨b,0,none⟩),.int .i64 t] w (zp w0 (.bool (decide (t∈l))) (z3f b u (l.erase t)*F)):=by
 have hs1:=hs.perm (by unfold z3f;ac_rfl:_=zY b 1 l*(pts b 0 [.int .i64 u]*F))
 go_enter Tryz.func88,Tryz.ntmps88
 go_wp2_with fail;refine (z2l b 1 l t w0 _ _ hs1 hok.row).mono ?_;rintro e w' ⟨rfl,hs3⟩;go_wp2_with fail;go_ret;exact ⟨rfl,hs3.perm (by unfold z3f;ac_rfl)⟩
theorem zeo (b:Nat) (u:Int) (l:List Int) (w0 w:World) (F:HP) (hs:Sat w0 w (z3f b u l*F)) :
  Calls Tryz.prog 58 #[.pointer (some ⟨b,0,none⟩)] w fun e w'=>e=.returned (.int .i64 u)∧w=w':=by
 have c0:=(hs.perm (by unfold z3f;ac_rfl:_=pts b 0 [.int .i64 u]*(zY b 1 l*F))).c0
 go_enter Tryz.func58,Tryz.ntmps58
 go_wp2;go_ret;exact ⟨rfl,rfl⟩
theorem zb4 (b:Nat) (u:Int) (l:List Int) (w0 w:World) (F:HP) (hs:Sat w0 w (z3f b u l*F)) (hok:z1L u l) :
  Calls Tryz.prog 59 #[.pointer (some ⟨b,0,none⟩)] w (Ret w0 fun v'=>z5 .i64 v' l*(z3f b u l*F)):=by
 have hs1:=hs.perm (by unfold z3f;ac_rfl:_=zY b 1 l*(pts b 0 [.int .i64 u]*F))
 go_enter Tryz.func59,Tryz.ntmps59
 go_wp2_with fail;refine (zdn b 1 l w0 _ _ hs1 (by have:=z0J hok.row;omega)).mono ?_;rintro e w' ⟨v,rfl,hs2⟩;go_wp2_with fail;go_ret;exact ⟨v,rfl,hs2.perm (by unfold z3f;ac_rfl)⟩
structure Mq where
 C:List Int
 f:Nat
 n:Nat
 room:Nat
 S:List Int
 R:List Int
 H:List Int
structure z3Z (q:Mq):Prop where
 c:q.C.length=64
 h:q.H.length=64
 f:q.f<64
 n:q.n≤q.room
 lo:1≤q.room
 hi:q.room≤64
 s:z2F q.S
 r:z2F q.R
 full:q.n<q.room→q.S=[]
 some:0<q.n→q.R=[]
def mqP (b:Nat) (q:Mq):HP:=pts b 0 (q.C.map (Value.int .u32))*(pts b 64 [.int .i64 q.f,.int .i64 q.n,.int .i64 q.room]*(zY b 67 q.S*(zY b 68 q.R*pts b 69 (q.H.map (Value.int .u32)))))
def z4h (q:Mq):List Int:=(List.range q.n).map fun i=>q.C.getD ((q.f+i)%64) 0
def Mq.push (q:Mq) (v:Int):Mq:={ q with C:=q.C.set ((q.f+q.n)%64) v,n:=q.n+1 }
theorem zgm (x:Nat):Int.tmod (x:Int) 64=((x%64:Nat):Int):=by rw [Int.tmod_eq_emod_of_nonneg (by omega)];omega
structure ziZ (q:Mq):Prop where
 c:q.C.length=64
 f:q.f<64
 n:q.n≤q.room
 hi:q.room≤64
theorem z3Z.pushOk {q:Mq} (h:z3Z q):ziZ q:=⟨h.c,h.f,h.n,h.hi⟩
theorem zd9 (b:Nat) (q:Mq) (v:Int) (w0 w:World) (F:HP) (hs:Sat w0 w (mqP b q*F)) (hok:ziZ q) (hn:q.n<64) :
  Calls Tryz.prog 158 #[.pointer (some ⟨b,0,none⟩),.int .u32 v] w (zp w0 (.tuple #[]) (mqP b (q.push v)*F)):=by
 have h1:=hok.c;have h2:=hok.f;have hs1:=hs.perm (by unfold mqP;ac_rfl:_=pts b 64 [.int .i64 q.f,.int .i64 q.n,.int .i64 q.room]*(pts b 0 (q.C.map (Value.int .u32))*(zY b 67 q.S*(zY b 68 q.R*pts b 69 (q.H.map (Value.int .u32))))*F));have c0:=hs1.c0;have c1:w.cell? ⟨b,65,none⟩=some (.int .i64 q.n):=hs1.cell (j:=1) rfl;have hx:(q.f+q.n)%64<64:=Nat.mod_lt _ (by decide);have hrem:Int.tmod (IntKind.i64.wrap ((q.f:Int)+(q.n:Int))) 64=(((q.f+q.n)%64:Nat):Int):=by
  rw [show IntKind.i64.wrap ((q.f:Int)+(q.n:Int))=((q.f+q.n:Nat):Int) by have:=hok.n;have:=hok.hi;rw [IntKind.wrap_i64];omega,zgm]
 have hs2:=(hs1.drew).perm (by ac_rfl:_=pts b 0 (q.C.map (Value.int .u32))*(pts b 64 [.int .i64 q.f,.int .i64 q.n,.int .i64 q.room]*(zY b 67 q.S*(zY b 68 q.R*pts b 69 (q.H.map (Value.int .u32))))*F));have f5:=hs2.frz (j:=(q.f+q.n)%64) (by rw [List.length_map,h1];omega);have c5:=hs2.cell (j:=(q.f+q.n)%64) (v:=.int .u32 (q.C.getD ((q.f+q.n)%64) 0)) (by simp [List.getD,h1,hx]);have hs3:=hs2.set (j:=(q.f+q.n)%64) (by rw [List.length_map,h1];omega) (.int .u32 v);rw [← List.map_set] at hs3;have hs4:=hs3.perm (by ac_rfl:_=pts b 64 [.int .i64 q.f,.int .i64 q.n,.int .i64 q.room]*(pts b 0 ((q.C.set ((q.f+q.n)%64) v).map (Value.int .u32))*(zY b 67 q.S*(zY b 68 q.R*pts b 69 (q.H.map (Value.int .u32))))*F));have c1':World.cell? _ ⟨b,65,none⟩=some (.int .i64 q.n):=hs4.cell (j:=1) rfl;have f1':World.frozen? _ ⟨b,65,none⟩=false:=hs4.frz (j:=1) (by simp);have hs5:Sat w0 (World.setCell _ ⟨b,65,none⟩ _) (pts b 64 [.int .i64 q.f,.int .i64 ((q.n:Int)+1),.int .i64 q.room]*_):=hs4.set (j:=1) (by simp) (.int .i64 ((q.n:Int)+1));rw [Nat.zero_add] at f5 c5;rw [Nat.zero_add] at c1' f1' hs5;clear hs3 hs4;generalize hm:(q.f+q.n)%64=m at *;have hm:=hid hm;have d64:decide (m<64)=true:=by simp [hx]
 go_enter Tryz.func158,Tryz.ntmps158
 go_wp2_with fail
 go_still_tail 14,(by kernel_rfl)
 change wpList _ _ _ _ _ w.drew
 generalize w.drew=wd at *;go_wp2_with fail
 go_end0
 exact ⟨rfl,hs5.perm (by unfold mqP Mq.push;rw [hm.out];ac_rfl)⟩
theorem zkH {w0 w:World} {F:HP} (room:Nat) (hs:Sat w0 w F) (t:TypeId) :
  Sat w0 (w.alloc (.cells #[.int .u32 0,.int .u32 0,.int .u32 0,.int .u32 0,.int .u32 0,.int .u32 0,.int .u32 0,.int .u32 0,.int .u32 0,.int .u32 0,.int .u32 0,.int .u32 0,.int .u32 0,.int .u32 0,.int .u32 0,.int .u32 0,.int .u32 0,.int .u32 0,.int .u32 0,.int .u32 0,.int .u32 0,.int .u32 0,.int .u32 0,.int .u32 0,.int .u32 0,.int .u32 0,.int .u32 0,.int .u32 0,.int .u32 0,.int .u32 0,.int .u32 0,.int .u32 0,.int .u32 0,.int .u32 0,.int .u32 0,.int .u32 0,.int .u32 0,.int .u32 0,.int .u32 0,.int .u32 0,.int .u32 0,.int .u32 0,.int .u32 0,.int .u32 0,.int .u32 0,.int .u32 0,.int .u32 0,.int .u32 0,.int .u32 0,.int .u32 0,.int .u32 0,.int .u32 0,.int .u32 0,.int .u32 0,.int .u32 0,.int .u32 0,.int .u32 0,.int .u32 0,.int .u32 0,.int .u32 0,.int .u32 0,.int .u32 0,.int .u32 0,.int .u32 0,.int .i64 0,.int .i64 0,.int .i64 room,.slice none 0 0,.slice none 0 0,.int .u32 0,.int .u32 0,.int .u32 0,.int .u32 0,.int .u32 0,.int .u32 0,.int .u32 0,.int .u32 0,.int .u32 0,.int .u32 0,.int .u32 0,.int .u32 0,.int .u32 0,.int .u32 0,.int .u32 0,.int .u32 0,.int .u32 0,.int .u32 0,.int .u32 0,.int .u32 0,.int .u32 0,.int .u32 0,.int .u32 0,.int .u32 0,.int .u32 0,.int .u32 0,.int .u32 0,.int .u32 0,.int .u32 0,.int .u32 0,.int .u32 0,.int .u32 0,.int .u32 0,.int .u32 0,.int .u32 0,.int .u32 0,.int .u32 0,.int .u32 0,.int .u32 0,.int .u32 0,.int .u32 0,.int .u32 0,.int .u32 0,.int .u32 0,.int .u32 0,.int .u32 0,.int .u32 0,.int .u32 0,.int .u32 0,.int .u32 0,.int .u32 0,.int .u32 0,.int .u32 0,.int .u32 0,.int .u32 0,.int .u32 0,.int .u32 0,.int .u32 0,.int .u32 0,.int .u32 0,.int .u32 0,.int .u32 0,.int .u32 0,.int .u32 0] t)) (mqP w.heap.size ⟨List.replicate 64 0,0,0,room,[],[],List.replicate 64 0⟩*F):=by
 have h1:Sat w0 _ (pts w.heap.size 0 ((List.replicate 64 0).map (Value.int .u32)++([.int .i64 0,.int .i64 0,.int .i64 room]++([.slice none 0 0]++([.slice none 0 0]++(List.replicate 64 0).map (Value.int .u32)))))*F):=hs.alloc #[.int .u32 0,.int .u32 0,.int .u32 0,.int .u32 0,.int .u32 0,.int .u32 0,.int .u32 0,.int .u32 0,.int .u32 0,.int .u32 0,.int .u32 0,.int .u32 0,.int .u32 0,.int .u32 0,.int .u32 0,.int .u32 0,.int .u32 0,.int .u32 0,.int .u32 0,.int .u32 0,.int .u32 0,.int .u32 0,.int .u32 0,.int .u32 0,.int .u32 0,.int .u32 0,.int .u32 0,.int .u32 0,.int .u32 0,.int .u32 0,.int .u32 0,.int .u32 0,.int .u32 0,.int .u32 0,.int .u32 0,.int .u32 0,.int .u32 0,.int .u32 0,.int .u32 0,.int .u32 0,.int .u32 0,.int .u32 0,.int .u32 0,.int .u32 0,.int .u32 0,.int .u32 0,.int .u32 0,.int .u32 0,.int .u32 0,.int .u32 0,.int .u32 0,.int .u32 0,.int .u32 0,.int .u32 0,.int .u32 0,.int .u32 0,.int .u32 0,.int .u32 0,.int .u32 0,.int .u32 0,.int .u32 0,.int .u32 0,.int .u32 0,.int .u32 0,.int .i64 0,.int .i64 0,.int .i64 room,.slice none 0 0,.slice none 0 0,.int .u32 0,.int .u32 0,.int .u32 0,.int .u32 0,.int .u32 0,.int .u32 0,.int .u32 0,.int .u32 0,.int .u32 0,.int .u32 0,.int .u32 0,.int .u32 0,.int .u32 0,.int .u32 0,.int .u32 0,.int .u32 0,.int .u32 0,.int .u32 0,.int .u32 0,.int .u32 0,.int .u32 0,.int .u32 0,.int .u32 0,.int .u32 0,.int .u32 0,.int .u32 0,.int .u32 0,.int .u32 0,.int .u32 0,.int .u32 0,.int .u32 0,.int .u32 0,.int .u32 0,.int .u32 0,.int .u32 0,.int .u32 0,.int .u32 0,.int .u32 0,.int .u32 0,.int .u32 0,.int .u32 0,.int .u32 0,.int .u32 0,.int .u32 0,.int .u32 0,.int .u32 0,.int .u32 0,.int .u32 0,.int .u32 0,.int .u32 0,.int .u32 0,.int .u32 0,.int .u32 0,.int .u32 0,.int .u32 0,.int .u32 0,.int .u32 0,.int .u32 0,.int .u32 0,.int .u32 0,.int .u32 0,.int .u32 0,.int .u32 0,.int .u32 0] t;rw [zd,zd,zd,zd] at h1;have h1:Sat w0 _ (pts w.heap.size 0 ((List.replicate 64 0).map (Value.int .u32))*(pts w.heap.size 64 [.int .i64 0,.int .i64 0,.int .i64 room]*(pts w.heap.size 67 [.slice none 0 0]*(pts w.heap.size 68 [.slice none 0 0]*pts w.heap.size 69 ((List.replicate 64 0).map (Value.int .u32)))))*F):=h1;generalize w.heap.size=b at *;have h2:=(h1.slice_nil 1).perm (by ac_rfl:_=pts b 67 [.slice none 0 0]*(zX 1 (.slice none 0 0) 0 []*(pts b 0 ((List.replicate 64 0).map (Value.int .u32))*(pts b 64 [.int .i64 0,.int .i64 0,.int .i64 room]*(pts b 68 [.slice none 0 0]*pts b 69 ((List.replicate 64 0).map (Value.int .u32))))*F)));have h3:=z4t (v:=.slice none 0 0) (l:=[]) h2;have h4:=(h3.slice_nil 1).perm (by ac_rfl:_=pts b 68 [.slice none 0 0]*(zX 1 (.slice none 0 0) 0 []*(pts b 0 ((List.replicate 64 0).map (Value.int .u32))*(pts b 64 [.int .i64 0,.int .i64 0,.int .i64 room]*(zY b 67 []*pts b 69 ((List.replicate 64 0).map (Value.int .u32))))*F)));have h5:=z4t (v:=.slice none 0 0) (l:=[]) h4;exact h5.perm (by unfold mqP;dsimp only [Int.natCast_zero];ac_rfl)
theorem zhY {room:Nat} (h:1≤room∧room≤64):z3Z ⟨List.replicate 64 0,0,0,room,[],[],List.replicate 64 0⟩ :=
 ⟨by simp,by simp,(by decide:0<64),Nat.zero_le _,h.1,h.2,z2k,z2k,fun _=>rfl,fun _=>rfl⟩
def ziT:Array Value:=#[.int .u32 0,.int .u32 0,.int .u32 0,.int .u32 0,.int .u32 0,.int .u32 0,.int .u32 0,.int .u32 0,.int .u32 0,.int .u32 0,.int .u32 0,.int .u32 0,.int .u32 0,.int .u32 0,.int .u32 0,.int .u32 0,.int .u32 0,.int .u32 0,.int .u32 0,.int .u32 0,.int .u32 0,.int .u32 0,.int .u32 0,.int .u32 0,.int .u32 0,.int .u32 0,.int .u32 0,.int .u32 0,.int .u32 0,.int .u32 0,.int .u32 0,.int .u32 0,.int .u32 0,.int .u32 0,.int .u32 0,.int .u32 0,.int .u32 0,.int .u32 0,.int .u32 0,.int .u32 0,.int .u32 0,.int .u32 0,.int .u32 0,.int .u32 0,.int .u32 0,.int .u32 0,.int .u32 0,.int .u32 0,.int .u32 0,.int .u32 0,.int .u32 0,.int .u32 0,.int .u32 0,.int .u32 0,.int .u32 0,.int .u32 0,.int .u32 0,.int .u32 0,.int .u32 0,.int .u32 0,.int .u32 0,.int .u32 0,.int .u32 0,.int .u32 0,.int .i64 0,.int .i64 0,.int .i64 0,.slice none 0 0,.slice none 0 0,.int .u32 0,.int .u32 0,.int .u32 0,.int .u32 0,.int .u32 0,.int .u32 0,.int .u32 0,.int .u32 0,.int .u32 0,.int .u32 0,.int .u32 0,.int .u32 0,.int .u32 0,.int .u32 0,.int .u32 0,.int .u32 0,.int .u32 0,.int .u32 0,.int .u32 0,.int .u32 0,.int .u32 0,.int .u32 0,.int .u32 0,.int .u32 0,.int .u32 0,.int .u32 0,.int .u32 0,.int .u32 0,.int .u32 0,.int .u32 0,.int .u32 0,.int .u32 0,.int .u32 0,.int .u32 0,.int .u32 0,.int .u32 0,.int .u32 0,.int .u32 0,.int .u32 0,.int .u32 0,.int .u32 0,.int .u32 0,.int .u32 0,.int .u32 0,.int .u32 0,.int .u32 0,.int .u32 0,.int .u32 0,.int .u32 0,.int .u32 0,.int .u32 0,.int .u32 0,.int .u32 0,.int .u32 0,.int .u32 0,.int .u32 0,.int .u32 0,.int .u32 0,.int .u32 0,.int .u32 0,.int .u32 0,.int .u32 0,.int .u32 0,.int .u32 0]
theorem zgS (w:World):Sem.run Tryz.prog (zeroValue 167) w=.ok (.agg ziT) w:=by kernel_rfl
theorem z8H:ziT.size=133:=by kernel_rfl
theorem ziU:ziT≠#[]:=fun h=>by have:=z8H;rw [h] at this;exact absurd this (by decide)
attribute [local simp,local go_sem] zgS z8H ziU
theorem zhZ {w0 w:World} {F:HP} (room:Nat) (u:Int) (e:(room:Int)=u) (hs:Sat w0 w F) (t:TypeId) :
  Sat w0 (w.alloc (.cells (ziT.setIfInBounds 66 (.int .i64 u)) t)) (mqP w.heap.size ⟨List.replicate 64 0,0,0,room,[],[],List.replicate 64 0⟩*F):=by
 subst e;exact zkH room hs t
theorem zc1 (room:Nat) (u:Int) (e:(room:Int)=u) (w0 w:World) (F:HP) (hs:Sat w0 w F) (h:1≤u∧u≤64) :
  Calls Tryz.prog 45 #[.int .i64 u] w (zp w0 (.tuple #[.pointer (some ⟨w.heap.size,0,none⟩),.int .i64 0]) (mqP w.heap.size ⟨List.replicate 64 0,0,0,room,[],[],List.replicate 64 0⟩*F)):=by
 have d:decide (u<1)=false:=by simp;omega
 have d2:decide ((64:Int)<u)=false:=by simp;omega
 have hs1:=zhZ room u e hs 167;clear e
 go_enter Tryz.func45,Tryz.ntmps45
 go_wp2;go_ret2;exact ⟨rfl,hs1⟩
def Mq.sendT (lv:List Int) (q:Mq):Int:=if q.R≠[] then zD lv q.R else 255
def Mq.sendE (q:Mq):Int:=if q.R≠[] then 0 else if q.n=q.room then 7 else 0
def Mq.send (lv:List Int) (q:Mq) (v:Int):Mq:=if q.R≠[] then { q with R:=q.R.erase (zD lv q.R) } else if q.n=q.room then q else q.push v
theorem zfV {q:Mq} (h:z3Z q) (hn:q.n<q.room) (hr:q.R=[]) (v:Int):z3Z (q.push v) :=
 ⟨by simp [Mq.push,h.c],h.h,h.f,by simp [Mq.push];omega,h.lo,h.hi,h.s,h.r,fun h'=>h.full hn,fun _=>hr⟩
theorem zaH {q:Mq} (h:z3Z q) (lv:List Int) (v:Int):z3Z (q.send lv v):=by
 unfold Mq.send
 split
 ·rename_i hr
  exact ⟨h.c,h.h,h.f,h.n,h.lo,h.hi,h.s,z1E h.r _,h.full,fun h'=>absurd (h.some h') hr⟩
 ·rename_i hr
  split
  ·exact h
  ·have:=h.n;exact zfV h (by omega) (Decidable.of_not_not hr) v
theorem zhU (b:Nat) (q:Mq) (v:Int) (lv:Value) (levels:List Int) (w0 w:World) (F:HP) (hs:Sat w0 w (mqP b q*F)) (hlv:RdN .i64 w lv levels) (hok:z3Z q) :
  Calls Tryz.prog 142 #[.pointer (some ⟨b,0,none⟩),.int .u32 v,lv] w (zp w0 (.tuple #[.int .i64 (q.sendT levels),.int .i64 q.sendE]) (mqP b (q.send levels v)*F)):=by
 obtain ⟨C,f,n,room,S,R,H⟩:=q;have hs1:=hs.perm (by unfold mqP;ac_rfl:_=zY b 68 R*(pts b 0 (C.map (Value.int .u32))*(pts b 64 [.int .i64 f,.int .i64 n,.int .i64 room]*(zY b 67 S*pts b 69 (H.map (Value.int .u32))))*F));have hr:=hok.r;have hn:=hok.n;have hhi:=hok.hi;dsimp only at hr hn hhi;unfold Mq.sendT Mq.sendE Mq.send;dsimp only
 by_cases h:R=[]
 ·subst h;simp only [ne_eq,not_true_eq_false,if_false]
  by_cases hx:n=room
  ·subst hx;rw [if_pos rfl,if_pos rfl]
   go_enter Tryz.func142,Tryz.ntmps142
   go_wp2_with fail;refine (z3e b 68 [] lv levels w0 _ _ hs1 hlv hr).mono ?_;rintro e w' ⟨rfl,k,rfl⟩;have hs2:=(hs1.drewN k).perm (by ac_rfl:_=pts b 64 [.int .i64 f,.int .i64 n,.int .i64 n]*(pts b 0 (C.map (Value.int .u32))*(zY b 67 S*(zY b 68 []*pts b 69 (H.map (Value.int .u32))))*F));have c1:World.cell? _ ⟨b,65,none⟩=some (.int .i64 n):=hs2.cell (j:=1) rfl;have c2:World.cell? _ ⟨b,66,none⟩=some (.int .i64 n):=hs2.cell (j:=2) rfl;clear hlv hs1 hs;generalize w.drewN k=w1 at *;go_wp2_with fail;go_quiet (fail);go_wp2_with fail;go_ret2;exact ⟨rfl,(hs2.drewN _).perm (by unfold mqP;ac_rfl)⟩
  ·rw [if_neg hx,if_neg hx];have d:((n:Int)==(room:Int))=false:=by simp;omega
   have d2:decide (n=room)=false:=by simp [hx]
   have d3:(n==room)=false:=by simp [hx]
   go_enter Tryz.func142,Tryz.ntmps142
   go_wp2_with fail;refine (z3e b 68 [] lv levels w0 _ _ hs1 hlv hr).mono ?_;rintro e w' ⟨rfl,k,rfl⟩;have hs2:=(hs1.drewN k).perm (by ac_rfl:_=pts b 64 [.int .i64 f,.int .i64 n,.int .i64 room]*(pts b 0 (C.map (Value.int .u32))*(zY b 67 S*(zY b 68 []*pts b 69 (H.map (Value.int .u32))))*F));have c1:World.cell? _ ⟨b,65,none⟩=some (.int .i64 n):=hs2.cell (j:=1) rfl;have c2:World.cell? _ ⟨b,66,none⟩=some (.int .i64 room):=hs2.cell (j:=2) rfl;clear hlv hs1 hs;generalize w.drewN k=w1 at *;have hs3:Sat w0 w1 (mqP b ⟨C,f,n,room,S,[],H⟩*F):=hs2.perm (by unfold mqP;ac_rfl);go_wp2_with fail;go_quiet (fail);go_wp2_with fail;refine (zd9 b _ v w0 _ _ (hs3.drewN _) hok.pushOk (by show n<64;omega)).mono ?_;rintro e w' ⟨rfl,hs4⟩;go_wp2_with fail;go_ret2;exact ⟨rfl,hs4⟩
 ·simp only [ne_eq,h,not_false_eq_true,if_true];have hd:decide (R≠[])=true:=by simp [h]
  go_enter Tryz.func142,Tryz.ntmps142
  go_wp2_with fail;refine (z3e b 68 R lv levels w0 _ _ hs1 hlv hr).mono ?_;rintro e w' ⟨rfl,k,rfl⟩;rw [hd];have hs2:=hs1.drewN k;clear hs1 hs hlv hd;go_wp2_with fail;refine (z2l b 68 R _ w0 _ _ hs2 hr).mono ?_;rintro e w' ⟨rfl,hs3⟩;go_wp2_with fail;go_ret2;exact ⟨rfl,hs3.perm (by unfold mqP;ac_rfl)⟩
theorem z3M (b:Nat) (q:Mq) (t:Int) (w0 w:World) (F:HP) (hs:Sat w0 w (mqP b q*F)) :
  Calls Tryz.prog 159 #[.pointer (some ⟨b,0,none⟩),.int .i64 t] w fun e w'=>e=.returned (.bool (decide (t∈q.S∨t∈q.R)))∧w=w':=by
 obtain ⟨C,f,n,room,S,R,H⟩:=q;have hs1:=hs.perm (by unfold mqP;ac_rfl:_=zY b 67 S*(pts b 0 (C.map (Value.int .u32))*(pts b 64 [.int .i64 f,.int .i64 n,.int .i64 room]*(zY b 68 R*pts b 69 (H.map (Value.int .u32))))*F));have hs2:=hs.perm (by unfold mqP;ac_rfl:_=zY b 68 R*(pts b 0 (C.map (Value.int .u32))*(pts b 64 [.int .i64 f,.int .i64 n,.int .i64 room]*(zY b 67 S*pts b 69 (H.map (Value.int .u32))))*F));dsimp only
 by_cases h:t∈S
 ·rw [decide_eq_true (.inl h:t∈S∨t∈R)];have hd:=decide_eq_true h
  go_enter Tryz.func159,Tryz.ntmps159
  go_wp2_with fail;refine (z7G b 67 S t w0 _ _ hs1).mono ?_;rintro e w' ⟨rfl,rfl⟩;rw [hd];go_wp2_with fail;go_ret;exact ⟨rfl,rfl⟩
 ·rw [show decide (t∈S∨t∈R)=decide (t∈R) by simp [h]];have hd:=decide_eq_false h
  go_enter Tryz.func159,Tryz.ntmps159
  go_wp2_with fail;refine (z7G b 67 S t w0 _ _ hs1).mono ?_;rintro e w' ⟨rfl,rfl⟩;rw [hd];clear hd;go_wp2_with fail;refine (z7G b 68 R t w0 _ _ hs2).mono ?_;rintro e w' ⟨rfl,rfl⟩;go_wp2_with fail;go_ret;exact ⟨rfl,rfl⟩
theorem zc2 (b:Nat) (q:Mq) (w0 w:World) (F:HP) (hs:Sat w0 w (mqP b q*F)) (hok:z3Z q) :
  Calls Tryz.prog 61 #[.pointer (some ⟨b,0,none⟩)] w (Ret w0 fun v'=>z5 .i64 v' q.S*(mqP b q*F)):=by
 obtain ⟨C,f,n,room,S,R,H⟩:=q;have hs1:=hs.perm (by unfold mqP;ac_rfl:_=zY b 67 S*(pts b 0 (C.map (Value.int .u32))*(pts b 64 [.int .i64 f,.int .i64 n,.int .i64 room]*(zY b 68 R*pts b 69 (H.map (Value.int .u32))))*F));have hr:=z0J hok.s;dsimp only at hr
 go_enter Tryz.func61,Tryz.ntmps61
 go_wp2_with fail;refine (zdn b 67 S w0 _ _ hs1 (by omega)).mono ?_;rintro e w' ⟨v,rfl,hs2⟩;go_wp2_with fail;go_ret;exact ⟨v,rfl,hs2.perm (by unfold mqP;ac_rfl)⟩
theorem z9l (b:Nat) (q:Mq) (w0 w:World) (F:HP) (hs:Sat w0 w (mqP b q*F)) (hok:z3Z q) :
  Calls Tryz.prog 62 #[.pointer (some ⟨b,0,none⟩)] w (Ret w0 fun v'=>z5 .i64 v' q.R*(mqP b q*F)):=by
 obtain ⟨C,f,n,room,S,R,H⟩:=q;have hs1:=hs.perm (by unfold mqP;ac_rfl:_=zY b 68 R*(pts b 0 (C.map (Value.int .u32))*(pts b 64 [.int .i64 f,.int .i64 n,.int .i64 room]*(zY b 67 S*pts b 69 (H.map (Value.int .u32))))*F));have hr:=z0J hok.r;dsimp only at hr
 go_enter Tryz.func62,Tryz.ntmps62
 go_wp2_with fail;refine (zdn b 68 R w0 _ _ hs1 (by omega)).mono ?_;rintro e w' ⟨v,rfl,hs2⟩;go_wp2_with fail;go_ret;exact ⟨v,rfl,hs2.perm (by unfold mqP;ac_rfl)⟩
end Go.Proofs.YtgiiidminlhbpaaGreatDoor
namespace Go.Proofs.YtgiiidminlhbpaaGreatDoor
open Go.RowKit Go.Sx
def Mq.waits (q:Mq) (t:Int):Prop:=t∈q.S∨t∈q.R
instance (q:Mq) (t:Int):Decidable (q.waits t):=inferInstanceAs (Decidable (_∨_))
def Mq.holdE (q:Mq) (t:Int):Int:=if q.n<q.room∨q.waits t then 1 else zj2 q.S t
def Mq.hold (q:Mq) (t v:Int):Mq:=if q.n<q.room∨q.waits t then q else if z65 q.S t then { q with S:=z1h q.S t,H:=q.H.set t.toNat v } else q
def Mq.awaitE (q:Mq) (t:Int):Int:=if 0<q.n∨q.waits t then 1 else zj2 q.R t
def Mq.await (q:Mq) (t:Int):Mq:=if 0<q.n∨q.waits t then q else { q with R:=z1h q.R t }
def Mq.cancel (q:Mq) (t:Int):Mq:=if t∈q.S then { q with S:=q.S.erase t } else { q with R:=q.R.erase t }
theorem zfU {q:Mq} (h:z3Z q) (t v:Int):z3Z (q.hold t v):=by
 unfold Mq.hold
 split
 ·exact h
 ·rename_i hc
  split
  ·exact ⟨h.c,by simp [h.h],h.f,h.n,h.lo,h.hi,z4B h.s t,h.r,fun h'=>absurd (.inl h') hc,h.some⟩
  ·exact h
theorem ze6 {q:Mq} (h:z3Z q) (t:Int):z3Z (q.await t):=by
 unfold Mq.await
 split
 ·exact h
 ·rename_i hc
  exact ⟨h.c,h.h,h.f,h.n,h.lo,h.hi,h.s,z4B h.r t,h.full,fun h'=>absurd (.inl h') hc⟩
theorem z7l {q:Mq} (h:z3Z q) (t:Int):z3Z (q.cancel t):=by
 unfold Mq.cancel
 split
 ·exact ⟨h.c,h.h,h.f,h.n,h.lo,h.hi,z1E h.s t,h.r,fun h'=>by show q.S.erase t=[];rw [h.full h'];rfl,h.some⟩
 ·exact ⟨h.c,h.h,h.f,h.n,h.lo,h.hi,h.s,z1E h.r t,h.full,fun h'=>by show q.R.erase t=[];rw [h.some h'];rfl⟩
theorem ze4 (b:Nat) (q:Mq) (t:Int) (w0 w:World) (F:HP) (hs:Sat w0 w (mqP b q*F)) (hok:z3Z q) :
  Calls Tryz.prog 89 #[.pointer (some ⟨b,0,none⟩),.int .i64 t] w (zp w0 (.bool (decide (q.waits t))) (mqP b (q.cancel t)*F)):=by
 obtain ⟨C,f,n,room,S,R,H⟩:=q;have hs1:=hs.perm (by unfold mqP;ac_rfl:_=zY b 67 S*(pts b 0 (C.map (Value.int .u32))*(pts b 64 [.int .i64 f,.int .i64 n,.int .i64 room]*(zY b 68 R*pts b 69 (H.map (Value.int .u32))))*F));have hS:=hok.s;have hR:=hok.r;dsimp only at hS hR;unfold Mq.cancel;dsimp only
 by_cases h:t∈S
 ·have hW:Mq.waits ⟨C,f,n,room,S,R,H⟩ t:=.inl h;rw [if_pos h,decide_eq_true hW];clear hW;have hd:=decide_eq_true h;clear hs
  go_enter Tryz.func89,Tryz.ntmps89
  go_wp2_with fail;refine (z2l b 67 S t w0 _ _ hs1 hS).mono ?_;rintro e w' ⟨rfl,hs2⟩;rw [hd];go_wp2_with fail;go_ret;exact ⟨rfl,hs2.perm (by unfold mqP;ac_rfl)⟩
 ·rw [if_neg h,show decide (Mq.waits ⟨C,f,n,room,S,R,H⟩ t)=decide (t∈R) by simp [Mq.waits,h]];have hd:=decide_eq_false h;have he:=List.erase_of_not_mem h;clear hs
  go_enter Tryz.func89,Tryz.ntmps89
  go_wp2_with fail;refine (z2l b 67 S t w0 _ _ hs1 hS).mono ?_;rintro e w' ⟨rfl,hs2⟩;rw [hd];rw [he] at hs2;clear hd he;have hs3:=hs2.perm (by ac_rfl:_=zY b 68 R*(pts b 0 (C.map (Value.int .u32))*(pts b 64 [.int .i64 f,.int .i64 n,.int .i64 room]*(zY b 67 S*pts b 69 (H.map (Value.int .u32))))*F));go_wp2_with fail;refine (z2l b 68 R t w0 _ _ hs3 hR).mono ?_;rintro e w' ⟨rfl,hs4⟩;go_wp2_with fail;go_ret;exact ⟨rfl,hs4.perm (by unfold mqP;ac_rfl)⟩
theorem zfO (b:Nat) (q:Mq) (t:Int) (w0 w:World) (F:HP) (hs:Sat w0 w (mqP b q*F)) (hok:z3Z q) :
  Calls Tryz.prog 146 #[.pointer (some ⟨b,0,none⟩),.int .i64 t] w (zp w0 (.int .i64 (q.awaitE t)) (mqP b (q.await t)*F)):=by
 obtain ⟨C,f,n,room,S,R,H⟩:=q;have hs1:=hs.perm (by unfold mqP;ac_rfl:_=pts b 64 [.int .i64 f,.int .i64 n,.int .i64 room]*(pts b 0 (C.map (Value.int .u32))*(zY b 67 S*(zY b 68 R*pts b 69 (H.map (Value.int .u32))))*F));have c1:World.cell? _ ⟨b,65,none⟩=some (.int .i64 n):=hs1.cell (j:=1) rfl;have hs2:=hs.perm (by unfold mqP;ac_rfl:_=zY b 68 R*(pts b 0 (C.map (Value.int .u32))*(pts b 64 [.int .i64 f,.int .i64 n,.int .i64 room]*(zY b 67 S*pts b 69 (H.map (Value.int .u32))))*F));have hR:=hok.r;dsimp only at hR;unfold Mq.awaitE Mq.await;dsimp only;clear hs1
 by_cases h:0<n
 ·rw [if_pos (.inl h),if_pos (.inl h)];have d:decide ((0:Int)<(n:Int))=true:=by simp;omega
  have d2:decide (0<n)=true:=by simp;omega
  go_enter Tryz.func146,Tryz.ntmps146
  go_wp2_with fail;go_ret;exact ⟨rfl,hs⟩
 ·have d:decide ((0:Int)<(n:Int))=false:=by simp;omega
  have d2:decide (0<n)=false:=by simp;omega
  by_cases hw:Mq.waits ⟨C,f,n,room,S,R,H⟩ t
  ·rw [if_pos (.inr hw),if_pos (.inr hw)];have hd:decide (t∈S∨t∈R)=true:=decide_eq_true hw
   go_enter Tryz.func146,Tryz.ntmps146
   go_wp2_with fail;refine (z3M b _ t w0 _ _ hs).mono ?_;rintro e w' ⟨rfl,rfl⟩;dsimp only;rw [hd];go_wp2_with fail;go_ret;exact ⟨rfl,hs⟩
  ·have hc:¬ (0<n∨Mq.waits ⟨C,f,n,room,S,R,H⟩ t):=by simp [h,hw]
   rw [if_neg hc,if_neg hc];have hd:decide (t∈S∨t∈R)=false:=decide_eq_false hw;clear hc hw
   go_enter Tryz.func146,Tryz.ntmps146
   go_wp2_with fail;refine (z3M b _ t w0 _ _ hs).mono ?_;rintro e w' ⟨rfl,rfl⟩;dsimp only;rw [hd];clear hd;go_wp2_with fail;refine (z9y b 68 R t w0 _ _ hs2 hR).mono ?_;rintro e w' ⟨rfl,hs4⟩;go_wp2_with fail;go_ret;exact ⟨rfl,hs4.perm (by unfold mqP;ac_rfl)⟩
theorem zhQ (b:Nat) (q:Mq) (t v:Int) (w0 w:World) (F:HP) (hs:Sat w0 w (mqP b q*F)) (hok:z3Z q) :
  Calls Tryz.prog 144 #[.pointer (some ⟨b,0,none⟩),.int .i64 t,.int .u32 v] w (zp w0 (.int .i64 (q.holdE t)) (mqP b (q.hold t v)*F)):=by
 obtain ⟨C,f,n,room,S,R,H⟩:=q;have hs1:=hs.perm (by unfold mqP;ac_rfl:_=pts b 64 [.int .i64 f,.int .i64 n,.int .i64 room]*(pts b 0 (C.map (Value.int .u32))*(zY b 67 S*(zY b 68 R*pts b 69 (H.map (Value.int .u32))))*F));have c1:World.cell? _ ⟨b,65,none⟩=some (.int .i64 n):=hs1.cell (j:=1) rfl;have c2:World.cell? _ ⟨b,66,none⟩=some (.int .i64 room):=hs1.cell (j:=2) rfl;have hs2:=hs.perm (by unfold mqP;ac_rfl:_=zY b 67 S*(pts b 0 (C.map (Value.int .u32))*(pts b 64 [.int .i64 f,.int .i64 n,.int .i64 room]*(zY b 68 R*pts b 69 (H.map (Value.int .u32))))*F));have hS:=hok.s;have hh:=hok.h;dsimp only at hS hh;unfold Mq.holdE Mq.hold;dsimp only;clear hs1
 by_cases h:n<room
 ·rw [if_pos (.inl h),if_pos (.inl h)];have d:decide ((n:Int)<(room:Int))=true:=by simp;omega
  have d2:decide (n<room)=true:=by simp;omega
  go_enter Tryz.func144,Tryz.ntmps144
  go_wp2_with fail;refine zj (fun w'=>w'.cell? ⟨b,65,none⟩=some (.int .i64 n)∧w'.cell? ⟨b,66,none⟩=some (.int .i64 room)) [(0,true),(1,true),(2,true),(3,true),(4,true),(5,true),(6,true),(7,true),(8,true),(9,true),(10,true),(11,true),(12,false),(13,true),(14,true)] (by kernel_rfl) (by kernel_rfl) (fun _ _ _ _ h=>h) ⟨c1,c2⟩ ?_
  iterate 12 (refine zf (fun K hK=>?_);simp only [zqS,zqZ]; (first | (rw [if_pos (by rfl)];apply Exists.intro;refine ⟨fun w hSw=>?_,hK _ ?_⟩; (focus ((try dsimp only at hSw);obtain ⟨hSw,hSw2⟩:=hSw;go_simp;try with_reducible rfl))) | (rw [if_neg (ne_true_of_eq_false (by rfl))];refine hK _ ?_));clear hK K;simp only [Act.put,zqA,zqP,zqQ])
  refine ze (fun K hK=>?_);simp only [zqS,zqZ];rw [if_neg (ne_true_of_eq_false (by rfl))];refine hK _ _ ⟨⟨c1,c2⟩,?_⟩;clear hK K;simp only [Act.put,zqA,zqP,zqQ]
  iterate 2 (refine zf (fun K hK=>?_);simp only [zqS,zqZ]; (first | (rw [if_pos (by rfl)];apply Exists.intro;refine ⟨fun w hSw=>?_,hK _ ?_⟩; (focus ((try dsimp only at hSw);obtain ⟨hSw,hSw2⟩:=hSw;go_simp;try with_reducible rfl))) | (rw [if_neg (ne_true_of_eq_false (by rfl))];refine hK _ ?_));clear hK K;simp only [Act.put,zqA,zqP,zqQ])
  refine zB ?_;go_wp2_with fail;go_ret;exact ⟨rfl,hs.drew⟩
 ·have d:decide ((n:Int)<(room:Int))=false:=by simp;omega
  have d2:decide (n<room)=false:=by simp;omega
  by_cases hw:Mq.waits ⟨C,f,n,room,S,R,H⟩ t
  ·rw [if_pos (.inr hw),if_pos (.inr hw)];have hd:decide (t∈S∨t∈R)=true:=decide_eq_true hw
   go_enter Tryz.func144,Tryz.ntmps144
   go_wp2_with fail;refine zj (fun w'=>w'.cell? ⟨b,65,none⟩=some (.int .i64 n)∧w'.cell? ⟨b,66,none⟩=some (.int .i64 room)) [(0,true),(1,true),(2,true),(3,true),(4,true),(5,true),(6,true),(7,true),(8,true),(9,true),(10,true),(11,true),(12,false),(13,true),(14,true)] (by kernel_rfl) (by kernel_rfl) (fun _ _ _ _ h=>h) ⟨c1,c2⟩ ?_
   iterate 12 (refine zf (fun K hK=>?_);simp only [zqS,zqZ]; (first | (rw [if_pos (by rfl)];apply Exists.intro;refine ⟨fun w hSw=>?_,hK _ ?_⟩; (focus ((try dsimp only at hSw);obtain ⟨hSw,hSw2⟩:=hSw;go_simp;try with_reducible rfl))) | (rw [if_neg (ne_true_of_eq_false (by rfl))];refine hK _ ?_));clear hK K;simp only [Act.put,zqA,zqP,zqQ])
   refine ze (fun K hK=>?_);simp only [zqS,zqZ];rw [if_pos (by rfl)];go_wp2_with fail;refine (z3M b _ t w0 _ _ hs.drew).mono ?_;rintro e w' ⟨rfl,rfl⟩;dsimp only;rw [hd];go_wp2_with fail;refine ⟨⟨c1,c2⟩,?_⟩
   iterate 2 (refine zf (fun K hK=>?_);simp only [zqS,zqZ]; (first | (rw [if_pos (by rfl)];apply Exists.intro;refine ⟨fun w hSw=>?_,hK _ ?_⟩; (focus ((try dsimp only at hSw);obtain ⟨hSw,hSw2⟩:=hSw;go_simp;try with_reducible rfl))) | (rw [if_neg (ne_true_of_eq_false (by rfl))];refine hK _ ?_));clear hK K;simp only [Act.put,zqA,zqP,zqQ])
   refine zB ?_;go_wp2_with fail;go_ret;exact ⟨rfl,hs.drew⟩
  ·have hc:¬ (n<room∨Mq.waits ⟨C,f,n,room,S,R,H⟩ t):=by simp [h,hw]
   rw [if_neg hc,if_neg hc];have hd:decide (t∈S∨t∈R)=false:=decide_eq_false hw;have hsd:=hs.drew;have hs2:=hs2.drew;clear hc
   by_cases ho:z65 S t
   ·rw [if_pos ho];have he:zj2 S t=0:=if_pos ho;rw [he];obtain ⟨a1,a2,a3⟩:=ho;obtain ⟨m,rfl⟩:=Int.eq_ofNat_of_zero_le a1;have he:=hid he
    go_enter Tryz.func144,Tryz.ntmps144
    go_wp2_with fail;refine zj (fun w'=>w'.cell? ⟨b,65,none⟩=some (.int .i64 n)∧w'.cell? ⟨b,66,none⟩=some (.int .i64 room)) [(0,true),(1,true),(2,true),(3,true),(4,true),(5,true),(6,true),(7,true),(8,true),(9,true),(10,true),(11,true),(12,false),(13,true),(14,true)] (by kernel_rfl) (by kernel_rfl) (fun _ _ _ _ h=>h) ⟨c1,c2⟩ ?_
    iterate 12 (refine zf (fun K hK=>?_);simp only [zqS,zqZ]; (first | (rw [if_pos (by rfl)];apply Exists.intro;refine ⟨fun w hSw=>?_,hK _ ?_⟩; (focus ((try dsimp only at hSw);obtain ⟨hSw,hSw2⟩:=hSw;go_simp;try with_reducible rfl))) | (rw [if_neg (ne_true_of_eq_false (by rfl))];refine hK _ ?_));clear hK K;simp only [Act.put,zqA,zqP,zqQ])
    refine ze (fun K hK=>?_);simp only [zqS,zqZ];rw [if_pos (by rfl)];go_wp2_with fail;refine (z3M b _ m w0 _ _ hsd).mono ?_;rintro e w' ⟨rfl,rfl⟩;dsimp only;rw [hd];clear hd;go_wp2_with fail;refine ⟨⟨c1,c2⟩,?_⟩
    iterate 2 (refine zf (fun K hK=>?_);simp only [zqS,zqZ]; (first | (rw [if_pos (by rfl)];apply Exists.intro;refine ⟨fun w hSw=>?_,hK _ ?_⟩; (focus ((try dsimp only at hSw);obtain ⟨hSw,hSw2⟩:=hSw;go_simp;try with_reducible rfl))) | (rw [if_neg (ne_true_of_eq_false (by rfl))];refine hK _ ?_));clear hK K;simp only [Act.put,zqA,zqP,zqQ])
    refine zB ?_;clear c1 c2 hs;generalize w.drew=w1 at *;go_wp2_with fail;refine (z9y b 67 S m w0 _ _ hs2 hS).mono ?_;rintro e w' ⟨rfl,hs4⟩;rw [he.out];have hs5:=hs4.perm (by ac_rfl:_=pts b 69 (H.map (Value.int .u32))*(pts b 0 (C.map (Value.int .u32))*(pts b 64 [.int .i64 f,.int .i64 n,.int .i64 room]*(zY b 67 (z1h S m)*zY b 68 R))*F));have hm:m<64:=by omega
    have d64:decide (m<64)=true:=by simp [hm]
    have c5:=hs5.cell (j:=m) (v:=.int .u32 (H.getD m 0)) (by simp [List.getD,hh,hm]);have f5:=hs5.frz (j:=m) (by rw [List.length_map,hh];omega);have hs6:=hs5.set (j:=m) (by rw [List.length_map,hh];omega) (.int .u32 v);rw [← List.map_set] at hs6;clear hs2 hs4 hs5;go_wp2_with fail;go_ret;exact ⟨rfl,hs6.perm (by unfold mqP;simp only [Int.toNat_natCast];ac_rfl)⟩
   ·rw [if_neg ho];have he:zj2 S t=1:=if_neg ho;have hl:z1h S t=S:=if_neg ho;rw [he];have he:=hid he;have hl:=hid hl
    go_enter Tryz.func144,Tryz.ntmps144
    go_wp2_with fail;refine zj (fun w'=>w'.cell? ⟨b,65,none⟩=some (.int .i64 n)∧w'.cell? ⟨b,66,none⟩=some (.int .i64 room)) [(0,true),(1,true),(2,true),(3,true),(4,true),(5,true),(6,true),(7,true),(8,true),(9,true),(10,true),(11,true),(12,false),(13,true),(14,true)] (by kernel_rfl) (by kernel_rfl) (fun _ _ _ _ h=>h) ⟨c1,c2⟩ ?_
    iterate 12 (refine zf (fun K hK=>?_);simp only [zqS,zqZ]; (first | (rw [if_pos (by rfl)];apply Exists.intro;refine ⟨fun w hSw=>?_,hK _ ?_⟩; (focus ((try dsimp only at hSw);obtain ⟨hSw,hSw2⟩:=hSw;go_simp;try with_reducible rfl))) | (rw [if_neg (ne_true_of_eq_false (by rfl))];refine hK _ ?_));clear hK K;simp only [Act.put,zqA,zqP,zqQ])
    refine ze (fun K hK=>?_);simp only [zqS,zqZ];rw [if_pos (by rfl)];go_wp2_with fail;refine (z3M b _ t w0 _ _ hsd).mono ?_;rintro e w' ⟨rfl,rfl⟩;dsimp only;rw [hd];clear hd;go_wp2_with fail;refine ⟨⟨c1,c2⟩,?_⟩
    iterate 2 (refine zf (fun K hK=>?_);simp only [zqS,zqZ]; (first | (rw [if_pos (by rfl)];apply Exists.intro;refine ⟨fun w hSw=>?_,hK _ ?_⟩; (focus ((try dsimp only at hSw);obtain ⟨hSw,hSw2⟩:=hSw;go_simp;try with_reducible rfl))) | (rw [if_neg (ne_true_of_eq_false (by rfl))];refine hK _ ?_));clear hK K;simp only [Act.put,zqA,zqP,zqQ])
    refine zB ?_;clear c1 c2 hs;generalize w.drew=w1 at *;go_wp2_with fail;refine (z9y b 67 S t w0 _ _ hs2 hS).mono ?_;rintro e w' ⟨rfl,hs4⟩;rw [he.out];rw [hl.out] at hs4;go_wp2_with fail;go_ret;exact ⟨rfl,hs4.perm (by unfold mqP;ac_rfl)⟩
def Mq.pop (q:Mq):Mq:={ q with f:=(q.f+1)%64,n:=q.n-1 }
def Mq.recvV (q:Mq):Int:=if q.n=0 then 0 else q.C.getD q.f 0
def Mq.recvT (lv:List Int) (q:Mq):Int:=if q.n=0∨q.S=[] then 255 else zD lv q.S
def Mq.recvE (q:Mq):Int:=if q.n=0 then 8 else 0
def Mq.take (lv:List Int) (q:Mq):Mq:={ q.pop with S:=q.S.erase (zD lv q.S) }
def Mq.recv (lv:List Int) (q:Mq):Mq:=if q.n=0 then q else if q.S=[] then q.pop else (q.take lv).push (q.H.getD (zD lv q.S).toNat 0)
theorem z7m {q:Mq} (h:z3Z q) (lv:List Int):z3Z (q.recv lv):=by
 unfold Mq.recv;have hn:=h.n
 split
 ·exact h
 ·rename_i h0
  have hR:=h.some (by omega)
  split
  ·rename_i hS
   exact ⟨h.c,h.h,Nat.mod_lt _ (by decide),by show q.n-1≤q.room;omega,h.lo,h.hi,h.s,h.r,fun _=>hS,fun _=>hR⟩
  ·rename_i hS
   have hfull:¬ q.n<q.room:=fun h'=>hS (h.full h');exact ⟨by simp [Mq.push,Mq.take,Mq.pop,h.c],h.h,Nat.mod_lt _ (by decide),by show q.n-1+1≤q.room;omega,h.lo,h.hi,z1E h.s _,h.r,fun h'=>absurd h' (by show ¬ q.n-1+1<q.room;omega),fun _=>hR⟩
theorem zhT (b:Nat) (q:Mq) (lv:Value) (levels:List Int) (w0 w:World) (F:HP) (hs:Sat w0 w (mqP b q*F)) (hst:z6E w0 F .i64 lv levels) (hok:z3Z q) :
  Calls Tryz.prog 145 #[.pointer (some ⟨b,0,none⟩),lv] w (zp w0 (.tuple #[.int .u32 q.recvV,.int .i64 (q.recvT levels),.int .i64 q.recvE]) (mqP b (q.recv levels)*F)):=by
 have hC:=hok.c;have hH:=hok.h;have hf:=hok.f;have hn:=hok.n;have hhi:=hok.hi;have hS:=hok.s;have hokR:=hid (z7m hok levels);unfold Mq.recvV Mq.recvT Mq.recvE Mq.recv;obtain ⟨C,f,n,room,S,R,H⟩:=q;dsimp only at hC hH hf hn hhi hS ⊢;have hs1:=hs.perm (by unfold mqP;ac_rfl:_=pts b 64 [.int .i64 f,.int .i64 n,.int .i64 room]*(pts b 0 (C.map (Value.int .u32))*(zY b 67 S*(zY b 68 R*pts b 69 (H.map (Value.int .u32))))*F));have c1:World.cell? _ ⟨b,65,none⟩=some (.int .i64 n):=hs1.cell (j:=1) rfl
 by_cases h:n=0
 ·subst h;rw [if_pos rfl,if_pos rfl,if_pos (.inl rfl),if_pos rfl];have c1:World.cell? _ ⟨b,65,none⟩=some (.int .i64 0):=c1
  go_enter Tryz.func145,Tryz.ntmps145
  go_wp2_with fail
  go_ret3
  exact ⟨rfl,hs⟩
 ·have d:((n:Int)==0)=false:=by simp;omega
  have d2:decide (n=0)=false:=by simp [h]
  have c0:World.cell? _ ⟨b,64,none⟩=some (.int .i64 f):=hs1.cell (j:=0) rfl;have c5:=(hs.perm (by unfold mqP;ac_rfl:_=pts b 0 (C.map (Value.int .u32))*(pts b 64 [.int .i64 f,.int .i64 n,.int .i64 room]*(zY b 67 S*(zY b 68 R*pts b 69 (H.map (Value.int .u32))))*F))).cell (j:=f) (v:=.int .u32 (C.getD f 0)) (by simp [List.getD,hC,hf]);rw [Nat.zero_add] at c5;have hfI:(f:Int)<64:=by omega
  have hrem:Int.tmod ((f:Int)+1) 64=(((f+1)%64:Nat):Int):=by rw [← zgm];congr 1
  have hrem2:Int.tmod (IntKind.i64.wrap ((f:Int)+1)) 64=(((f+1)%64:Nat):Int):=by
   rw [show IntKind.i64.wrap ((f:Int)+1)=((f+1:Nat):Int) by rw [IntKind.wrap_i64];omega,zgm]
  have hpop:(((n-1:Nat):Int))=(n:Int)-1:=by omega
  have hpop:=hid hpop
  by_cases hS0:S=[]
  ·subst hS0;rw [if_neg h,if_neg h,if_pos (.inr rfl),if_neg h,if_pos rfl];generalize C.getD f 0=x at c5 ⊢;have hdS:decide (([]:List Int)≠[])=false:=by simp
   go_enter Tryz.func145,Tryz.ntmps145
   go_wp2_with fail;go_quiet (fail);have hs2:=hs1.drewN nq;clear hs1 hs c0 c1 c5;generalize w.drewN nq=w1 at *;have c0:World.cell? _ ⟨b,64,none⟩=some (.int .i64 f):=hs2.cell (j:=0) rfl;have f0:World.frozen? _ ⟨b,64,none⟩=false:=hs2.frz (j:=0) (by simp);have hs3:Sat w0 (World.setCell _ ⟨b,64,none⟩ _) (pts b 64 [.int .i64 ((f+1)%64:Nat),.int .i64 n,.int .i64 room]*_):=hs2.set (j:=0) (by simp) (.int .i64 ((f+1)%64:Nat));have c1:World.cell? _ ⟨b,65,none⟩=some (.int .i64 n):=hs3.cell (j:=1) rfl;have f1:World.frozen? _ ⟨b,65,none⟩=false:=hs3.frz (j:=1) (by simp);have hs4:Sat w0 (World.setCell _ ⟨b,65,none⟩ _) (pts b 64 [.int .i64 ((f+1)%64:Nat),.int .i64 ((n:Int)-1),.int .i64 room]*_):=hs3.set (j:=1) (by simp) (.int .i64 ((n:Int)-1));clear hs2 hs3;have rl:=hst.rd (hs4.perm (by ac_rfl:_=pts b 64 [.int .i64 ((f+1)%64:Nat),.int .i64 ((n:Int)-1),.int .i64 room]*(pts b 0 (C.map (Value.int .u32))*(zY b 67 ([]:List Int)*(zY b 68 R*pts b 69 (H.map (Value.int .u32)))))*F));have hs5:=hs4.perm (by ac_rfl:_=zY b 67 ([]:List Int)*(pts b 0 (C.map (Value.int .u32))*(pts b 64 [.int .i64 ((f+1)%64:Nat),.int .i64 ((n:Int)-1),.int .i64 room]*(zY b 68 R*pts b 69 (H.map (Value.int .u32))))*F));clear hs4;generalize hpf:(f+1)%64=f' at *;have hpf:=hid hpf;have hf':Hid (f'<64):=hid (by have:=hpf.out;omega);go_wp2_with fail;refine (z3e b 67 [] lv levels w0 _ _ hs5 rl hS).mono ?_;rintro e w' ⟨rfl,k,rfl⟩;rw [hdS];have hs6:=hs5.drewN k;clear hs5 rl c0 f0 c1 f1 hst;generalize World.drewN _ k=w2 at *;go_wp2_with fail
   go_ret3
   exact ⟨rfl,hs6.perm (by unfold mqP Mq.pop;simp only [hpop.out,hpf.out];ac_rfl)⟩
  ·have hor:¬ (n=0∨S=[]):=by simp [h,hS0]
   rw [if_neg h,if_neg h,if_neg hor,if_neg h,if_neg hS0];have hdS:decide (S≠[])=true:=decide_eq_true hS0;have hin:=hS.2 _ (z1n levels S hS0);generalize C.getD f 0=x at c5 ⊢;have hR:=hok.r;generalize hbb:zD levels S=bb at *;obtain ⟨y0,y1⟩:=hin;obtain ⟨m,rfl⟩:=Int.eq_ofNat_of_zero_le y0;have hbb:=hid hbb;have hm:m<64:=by omega
   rw [show ((m:Int)).toNat=m from Int.toNat_natCast m];generalize hy:H.getD m 0=y;have hy:=hid hy;clear hor hok
   go_enter Tryz.func145,Tryz.ntmps145
   go_wp2_with fail;go_quiet (fail);have hs2:=hs1.drewN nq;clear hs1 hs c0 c1 c5;generalize w.drewN nq=w1 at *;have c0:World.cell? _ ⟨b,64,none⟩=some (.int .i64 f):=hs2.cell (j:=0) rfl;have f0:World.frozen? _ ⟨b,64,none⟩=false:=hs2.frz (j:=0) (by simp);have hs3:Sat w0 (World.setCell _ ⟨b,64,none⟩ _) (pts b 64 [.int .i64 ((f+1)%64:Nat),.int .i64 n,.int .i64 room]*_):=hs2.set (j:=0) (by simp) (.int .i64 ((f+1)%64:Nat));have c1:World.cell? _ ⟨b,65,none⟩=some (.int .i64 n):=hs3.cell (j:=1) rfl;have f1:World.frozen? _ ⟨b,65,none⟩=false:=hs3.frz (j:=1) (by simp);have hs4:Sat w0 (World.setCell _ ⟨b,65,none⟩ _) (pts b 64 [.int .i64 ((f+1)%64:Nat),.int .i64 ((n:Int)-1),.int .i64 room]*_):=hs3.set (j:=1) (by simp) (.int .i64 ((n:Int)-1));clear hs2 hs3;have rl:=hst.rd (hs4.perm (by ac_rfl:_=pts b 64 [.int .i64 ((f+1)%64:Nat),.int .i64 ((n:Int)-1),.int .i64 room]*(pts b 0 (C.map (Value.int .u32))*(zY b 67 S*(zY b 68 R*pts b 69 (H.map (Value.int .u32)))))*F));have hs5:=hs4.perm (by ac_rfl:_=zY b 67 S*(pts b 0 (C.map (Value.int .u32))*(pts b 64 [.int .i64 ((f+1)%64:Nat),.int .i64 ((n:Int)-1),.int .i64 room]*(zY b 68 R*pts b 69 (H.map (Value.int .u32))))*F));clear hs4;generalize hpf:(f+1)%64=f' at *;have hpf:=hid hpf;have hf':Hid (f'<64):=hid (by have:=hpf.out;omega);go_wp2_with fail;refine (z3e b 67 S lv levels w0 _ _ hs5 rl hS).mono ?_;rintro e w' ⟨rfl,k,rfl⟩;rw [hdS,hbb.out];have hs6:=hs5.drewN k;clear hs5 rl c0 f0 c1 f1 hst;generalize World.drewN _ k=w2 at *;go_wp2_with fail;refine (z2l b 67 S m w0 _ _ hs6 hS).mono ?_;rintro e w' ⟨rfl,hs7⟩;clear hs6;have hs8:=hs7.perm (by ac_rfl:_=pts b 69 (H.map (Value.int .u32))*(pts b 0 (C.map (Value.int .u32))*(pts b 64 [.int .i64 (f':Nat),.int .i64 ((n:Int)-1),.int .i64 room]*(zY b 67 (S.erase m)*zY b 68 R))*F));have d64:decide (m<64)=true:=by simp [hm]
   have c5:=hs8.cell (j:=m) (v:=.int .u32 y) (by rw [← hy.out];simp [List.getD,hH,hm]);have hs9:Sat w0 w' (mqP b ⟨C,f',n-1,room,S.erase m,R,H⟩*F):=hs8.perm (by unfold mqP;simp only [hpop.out];ac_rfl);clear hs7 hs8;go_wp2_with fail;refine (zd9 b _ y w0 _ _ hs9 ⟨hC,hf'.out,by show n-1≤room;omega,hhi⟩ (by show n-1<64;omega)).mono ?_;rintro e w3 ⟨rfl,hsA⟩;go_wp2_with fail
   go_ret3
   exact ⟨rfl,hsA.perm (by unfold Mq.take Mq.pop;simp only [hbb.out,hpf.out])⟩
end Go.Proofs.YtgiiidminlhbpaaGreatDoor
namespace Go.Lk
structure Lk where
 own:List Int
 now:List Int
 on:List Int
 ow:List Int
 rows:List (List Int)
def lg (l:List Int) (k:Nat):Int:=l.getD k 0
def z0N (L:Lk) (t:Nat):Int:=lg L.on t
def z4c (L:Lk) (t:Nat):Int:=lg L.own t
def z1q (L:Lk) (t:Nat):Int:=lg L.now t
def z3O (L:Lk) (m:Nat):Int:=lg L.ow m
def rowAt (L:Lk) (m:Nat):List Int:=L.rows.getD m []
def nx (L:Lk) (t:Nat):Nat:=(z3O L (z0N L t).toNat).toNat
inductive Reach (L:Lk) (s:Nat):Nat→Prop
 | refl:Reach L s s
 | step {t:Nat}:Reach L s t→0≤z0N L t→Reach L s (nx L t)
structure Fit (L:Lk):Prop where
 n:L.own.length≤64
 ln:L.now.length=L.own.length
 lo:L.on.length=L.own.length
 m:L.ow.length≤32
 lr:L.rows.length=L.ow.length
 ownr:∀ t,t<L.own.length→0≤z4c L t∧z4c L t<32
 nowr:∀ t,t<L.own.length→0≤z1q L t∧z1q L t<32
 onr:∀ t,t<L.own.length→z0N L t=-1∨0≤z0N L t∧z0N L t<L.ow.length∧0≤z3O L (z0N L t).toNat∧z3O L (z0N L t).toNat<L.own.length
 owr:∀ m,m<L.ow.length→z3O L m=255∨0≤z3O L m∧z3O L m<L.own.length
 row:∀ m,m<L.ow.length→(rowAt L m).Nodup∧∀ t,t∈rowAt L m↔0≤t∧t<L.own.length∧z0N L t.toNat=m
 rank:∃ rk:Nat→Nat, ∀ t,t<L.own.length→0≤z0N L t→rk (nx L t)<rk t
structure Lev (L:Lk):Prop where
 up:∀ t,t<L.own.length→z1q L t≤z4c L t
 edge:∀ t,t<L.own.length→0≤z0N L t→z1q L (nx L t)≤z1q L t
 att:∀ t,t<L.own.length→∃ s,s<L.own.length∧Reach L s t∧z1q L t=z4c L s
theorem zaK {L:Lk} (h:Fit L) {t:Nat} (ht:t<L.own.length) (ho:0≤z0N L t):nx L t<L.own.length:=by
 rcases h.onr t ht with e | ⟨_,_,h3,h4⟩
 ·omega
 ·unfold nx;omega
theorem z6x {L:Lk} (h:Fit L) {s t:Nat} (hs:s<L.own.length) (hr:Reach L s t):t<L.own.length:=by
 induction hr with
 | refl=>exact hs
 | step _ ho ih=>exact zaK h ih ho
theorem zfB {L:Lk} (h:Fit L) (hl:Lev L) {s t:Nat} (hs:s<L.own.length) (hr:Reach L s t):z1q L t≤z1q L s:=by
 induction hr with
 | refl=>exact Int.le_refl _
 | step hr' ho ih=>exact Int.le_trans (hl.edge _ (z6x h hs hr') ho) ih
theorem z8p {L K:Lk} (hL:Fit L) (h1:K.own=L.own) (h2:K.on=L.on) (h3:K.ow=L.ow) (a:Lev L) (b:Lev K) {t:Nat} (ht:t<L.own.length):z1q L t≤z1q K t:=by
 have hr:∀ {s t},Reach K s t→Reach L s t:=by
  intro s t h;have e1:∀ x,z0N K x=z0N L x:=fun x=>by unfold z0N;rw [h2]
  have e2:∀ x,nx K x=nx L x:=fun x=>by unfold nx z3O;rw [e1,h3]
  induction h with
  | refl=>exact .refl
  | step _ ho ih=>rw [e2];rw [e1] at ho;exact .step ih ho
 obtain ⟨s,hs,hrs,e⟩:=b.att t (by rw [h1];exact ht);rw [h1] at hs;have e3:z4c K s=z4c L s:=by unfold z4c;rw [h1]
 rw [e,e3];exact Int.le_trans (zfB hL a hs (hr hrs)) (a.up s hs)
structure ziW (L:Lk) (K:Nat):Prop where
 up:∀ t,t<L.own.length→z1q L t≤z4c L t
 edge:∀ t,t<L.own.length→t<K→0≤z0N L t→z1q L (nx L t)≤z1q L t
 att:∀ t,t<L.own.length→∃ s,s<L.own.length∧Reach L s t∧z1q L t=z4c L s
theorem ziW.lev {L:Lk} {K:Nat} (h:ziW L K) (hK:L.own.length≤K):Lev L:=⟨h.up,fun t ht ho=>h.edge t ht (by omega) ho,h.att⟩
structure ziY (L:Lk) (K t:Nat):Prop where
 up:∀ x,x<L.own.length→z1q L x≤z4c L x
 edge:∀ x,x<L.own.length→x<K→x≠t→0≤z0N L x→z1q L (nx L x)≤z1q L x
 att:∀ x,x<L.own.length→∃ s,s<L.own.length∧Reach L s x∧z1q L x=z4c L s
def z5Y (L:Lk) (x:Nat) (v:Int):Lk:={ L with now:=L.now.set x v }
theorem z3N {L:Lk} {x y:Nat} (hx:x<L.now.length) (v:Int):z1q (z5Y L x v) y=if y=x then v else z1q L y:=by
 unfold z1q z5Y lg
 by_cases h:y=x
 ·subst h;rw [if_pos rfl];simp [List.getD,hx]
 ·rw [if_neg h];simp [List.getD,List.getElem?_set_ne (Ne.symm h)]
theorem zaV {L:Lk} {x:Nat} {v:Int} {s t:Nat} (h:Reach L s t):Reach (z5Y L x v) s t:=by
 induction h with
 | refl=>exact .refl
 | step _ ho ih=>exact .step (L:=z5Y L x v) ih ho
theorem zdF {L:Lk} (h:Fit L) {x:Nat} (hx:x<L.own.length) {v:Int} (hv:0≤v∧v<32):Fit (z5Y L x v) :=
 ⟨h.n,by unfold z5Y;rw [List.length_set];exact h.ln,h.lo,h.m,h.lr,h.ownr,fun t ht=>by
  rw [z3N (by rw [h.ln];exact hx)]
  split
  ·exact hv
  ·exact h.nowr t ht,h.onr,h.owr,h.row,h.rank⟩
theorem ze7 {L:Lk} {K:Nat} (h:ziW L K):ziY L (K+1) K:=⟨h.up,fun x hx hk hne ho=>h.edge x hx (by omega) ho,h.att⟩
theorem zaI {L:Lk} {K t:Nat} (h:ziY L K t) (he:0≤z0N L t→z1q L (nx L t)≤z1q L t):ziW L K :=
 ⟨h.up,fun x hx hk ho=>by
  by_cases e:x=t
  ·subst e;exact he ho
  ·exact h.edge x hx hk e ho,h.att⟩
theorem zfZ {L:Lk} (hf:Fit L) {K t:Nat} (ht:t<L.own.length) (h:ziY L K t) (ho:0≤z0N L t) (hlt:z1q L t<z1q L (nx L t)) (hne:nx L t≠t):ziY (z5Y L (nx L t) (z1q L t)) K (nx L t):=by
 have hn:=zaK hf ht ho;have hl:nx L t<L.now.length:=by rw [hf.ln];exact hn
 refine ⟨fun x hx=>?_,fun x hx hxk hxt hox=>?_,fun x hx=>?_⟩
 ·rw [z3N hl]
  split
  ·rename_i e;subst e
   exact Int.le_trans (Int.le_of_lt hlt) (h.up _ hn)
  ·exact h.up x hx
 ·have hox':0≤z0N L x:=hox;show z1q (z5Y L (nx L t) (z1q L t)) (nx L x)≤_;rw [z3N hl,z3N hl,if_neg hxt]
  by_cases e:x=t
  ·subst e;rw [if_pos rfl];exact Int.le_refl _
  ·have h1:=h.edge x hx hxk e hox'
   split
   ·rename_i e2;rw [e2] at h1;omega
   ·exact h1
 ·rw [z3N hl]
  split
  ·rename_i e;subst e
   obtain ⟨s,hs,hr,e⟩:=h.att t ht;exact ⟨s,hs,zaV (.step hr ho),e⟩
  ·obtain ⟨s,hs,hr,e⟩:=h.att x hx;exact ⟨s,hs,zaV hr,e⟩
theorem znA {L:Lk} (hf:Fit L) {t:Nat} (ht:t<L.own.length) (ho:0≤z0N L t):nx L t≠t:=by
 obtain ⟨rk,hk⟩:=hf.rank;intro e;have:=hk t ht ho;rw [e] at this;omega
end Go.Lk
namespace Go.Sx
open Go.RowKit
section
variable {P:Program} {ops:Array Oper} {Q:Exit→Act→World→Prop} {md:Region.Mode} {S:World→Prop}
theorem z0X {S':World→Prop} (hm:∀ w,S' w→S w):∀ (fuel:Nat) (listed:Array Bool) (a:Act) (w:World),wpAnyH P md ops Q S' fuel listed a w→wpAnyH P md ops Q S fuel listed a w
 | 0,_,_,_,h=>h
 | fuel+1,_,_,_,h=>⟨h.1,fun i hi=>wpOp_mono (fun a' w' h'=>⟨hm _ h'.1,z0X hm fuel _ a' w' h'.2⟩) (h.2 i hi)⟩
section
variable {l:List Oper} {i:Nat} {rest:List (Nat×Bool)} {a:Act} {w:World}
end
end
end Go.Sx
namespace Go.Proofs.YtgiiidminlhbpaaGreatDoor
open Go.RowKit Go.Sx Go.Lk
instance (priority:=1300) (g off n cap k:Nat) (l:List Int) [h:Lt k l.length]:zC (z5 .i64 (.slice (some ⟨g,off,none⟩) n cap) l) g (off+k) (.int .i64 (lg l k)):=zC.nums .i64 g off n cap k l
theorem zi5 {w0 w:World} {F:HP} {g off n cap k:Nat} {l:List Int} (hs:Sat w0 w (z5 .i64 (.slice (some ⟨g,off,none⟩) n cap) l*F)) (hk:k<l.length) (x:Int) :
  Sat w0 (w.setCell ⟨g,off+k,none⟩ (.int .i64 x)) (z5 .i64 (.slice (some ⟨g,off,none⟩) n cap) (l.set k x)*F):=by
 rcases hs.slice_out with ⟨e,_⟩ | ⟨g',off',cap',sp,e,h1,h2,hx,hsp,hs'⟩
 ·cases e
 ·simp only [Value.slice.injEq,Option.some.injEq,Addr.mk.injEq] at e;obtain ⟨⟨rfl,rfl,_⟩,rfl,rfl⟩:=e;have h3:=hs'.set (j:=k) (by rw [List.length_append,List.length_map];omega) (.int .i64 x);rw [List.set_append_left _ _ (by rw [List.length_map];exact hk),← List.map_set] at h3;have h4:=Sat.slice_in (k:=1) (n:=l.length) h3 h1 h2 (by simp) hsp;unfold z5;rw [List.length_set];exact h4
instance (priority:=1300) (g off n cap k:Nat) (l:List Int) (x:Int) [h:Lt k l.length]:Upd (z5 .i64 (.slice (some ⟨g,off,none⟩) n cap) l) g (off+k) (.int .i64 x) (z5 .i64 (.slice (some ⟨g,off,none⟩) n cap) (l.set k x)):=⟨fun hs=>zi5 hs h.lt x⟩
def z2Q (g:Nat):Nat→List Int→List (List Int)→HP
 | o,x::xs,r::rs=>pts g o [.int .i64 x]*(zY g (o+1) r*z2Q g (o+2) xs rs)
 | _,_,_=>emp
def z9m (g:Nat):Nat→Nat→List Int→List (List Int)→HP
 | o,0,_::xs,_::rs=>z2Q g (o+2) xs rs
 | o,i+1,x::xs,r::rs=>pts g o [.int .i64 x]*(zY g (o+1) r*z9m g (o+2) i xs rs)
 | _,_,_,_=>emp
def rg (l:List (List Int)) (k:Nat):List Int:=l.getD k []
theorem z2h (g:Nat):∀ (o i:Nat) (xs:List Int) (rs:List (List Int)) (_:i<xs.length) (_:rs.length=xs.length),
  z2Q g o xs rs=pts g (o+i*2) [.int .i64 (lg xs i)]*(zY g (o+i*2+1) (rg rs i)*z9m g o i xs rs)
 | o,_,[],_,hi,_=>absurd hi (by simp)
 | o,_,_::_,[],_,hl=>absurd hl (by simp)
 | o,0,x::xs,r::rs,_,_=>by simp [z2Q,z9m,lg,rg,List.getD]
 | o,i+1,x::xs,r::rs,hi,hl=>by
  have e:=z2h g (o+2) i xs rs (by simpa using hi) (by simpa using hl);rw [show o+(i+1)*2=o+2+i*2 by omega];show pts g o [.int .i64 x]*(zY g (o+1) r*z2Q g (o+2) xs rs)=_;rw [e];have e1:lg (x::xs) (i+1)=lg xs i:=by simp [lg,List.getD]
  have e2:rg (r::rs) (i+1)=rg rs i:=by simp [rg,List.getD]
  rw [e1,e2];show _=pts g (o+2+i*2) [.int .i64 (lg xs i)]*(zY g (o+2+i*2+1) (rg rs i)*(pts g o [.int .i64 x]*(zY g (o+1) r*z9m g (o+2) i xs rs)))
  ac_rfl
theorem z6u (g:Nat):∀ (o i:Nat) (xs:List Int) (rs:List (List Int)) (x:Int) (r:List Int),z9m g o i (xs.set i x) (rs.set i r)=z9m g o i xs rs
 | o,i,[],rs,x,r=>by cases i<;>cases rs<;>rfl
 | o,i,y::ys,[],x,r=>by cases i<;>rfl
 | o,0,y::ys,q::qs,x,r=>rfl
 | o,i+1,y::ys,q::qs,x,r=>by
  show pts g o [.int .i64 y]*(zY g (o+1) q*z9m g (o+2) i (ys.set i x) (qs.set i r))=_;rw [z6u g (o+2) i ys qs x r];rfl
theorem z2g {l:List Int} {k:Nat} (h:k<l.length) (x:Int) (j:Nat):lg (l.set k x) j=if j=k then x else lg l j:=by
 unfold lg
 by_cases e:j=k
 ·subst e;rw [if_pos rfl];simp [List.getD,h]
 ·rw [if_neg e];simp [List.getD,List.getElem?_set_ne (Ne.symm e)]
theorem z7F {l:List (List Int)} {k:Nat} (h:k<l.length) (x:List Int) (j:Nat):rg (l.set k x) j=if j=k then x else rg l j:=by
 unfold rg
 by_cases e:j=k
 ·subst e;rw [if_pos rfl];simp [List.getD,h]
 ·rw [if_neg e];simp [List.getD,List.getElem?_set_ne (Ne.symm e)]
theorem z9D {α:Type} (l:List α) (k:Nat) (d:α):l.set k (l.getD k d)=l:=by
 by_cases h:k<l.length
 ·refine List.ext_getElem (by simp) fun i h1 h2=>?_;rw [List.getElem_set]
  split
  ·rename_i e;subst e;simp [List.getD,h]
  ·rfl
 ·rw [List.set_eq_of_length_le (by omega)]
class z12 (xs:List Int) (rs:List (List Int)):Prop where
 eq:rs.length=xs.length
section
variable (g o i:Nat) (xs:List Int) (rs:List (List Int)) (x:Int)
instance [h:Lt i xs.length] [e:z12 xs rs]:zC (z2Q g o xs rs) g (o+i*2) (.int .i64 (lg xs i)) :=
  ⟨fun {w0 w F} hs => by rw [z2h g o i xs rs h.lt e.eq] at hs; exact Sat.c0 (F := zY g (o+i*2+1) (rg rs i)*z9m g o i xs rs*F) (hs.perm (by ac_rfl)),
   fun {w0 w F} hs => by rw [z2h g o i xs rs h.lt e.eq] at hs; exact Sat.f0 (F := zY g (o+i*2+1) (rg rs i)*z9m g o i xs rs*F) (hs.perm (by ac_rfl))⟩
instance [h:Lt i xs.length] [e:z12 xs rs]:Upd (z2Q g o xs rs) g (o+i*2) (.int .i64 x) (z2Q g o (xs.set i x) rs) :=
 ⟨fun {w0 w F} hs=>by
  rw [z2h g o i xs rs h.lt e.eq] at hs;have h1:=Sat.set0 (F:=zY g (o+i*2+1) (rg rs i)*z9m g o i xs rs*F) (hs.perm (by ac_rfl)) (.int .i64 x);have h2:z9m g o i (xs.set i x) rs=z9m g o i xs rs:=by
   have:=z6u g o i xs rs x (rg rs i)
   rwa [show rs.set i (rg rs i)=rs from z9D rs i []] at this
  rw [z2h g o i (xs.set i x) rs (by rw [List.length_set];exact h.lt) (by rw [List.length_set];exact e.eq),h2,z2g h.lt,if_pos rfl];exact h1.perm (by ac_rfl)⟩
end
def lkV (b:Nat) (L:Lk) (v0 v1 v2:Value) (g off cap:Nat):HP :=
 pts b 0 [v0,v1,v2,.slice (some ⟨g,off,none⟩) L.ow.length cap]*(z5 .i64 v0 L.own*(z5 .i64 v1 L.now*(z5 .i64 v2 L.on*z2Q g off L.ow L.rows)))
def lkP (b:Nat) (L:Lk):HP:=ex fun v0=>ex fun v1=>ex fun v2=>ex fun g=>ex fun off=>ex fun cap=>lkV b L v0 v1 v2 g off cap
theorem z3K {w0 w:World} {F:HP} {b:Nat} {L:Lk} {v0 v1 v2:Value} {g off cap:Nat} (hs:Sat w0 w (pts b 0 [v0,v1,v2,.slice (some ⟨g,off,none⟩) L.ow.length cap]*(z5 .i64 v0 L.own*(z5 .i64 v1 L.now*(z5 .i64 v2 L.on*(z2Q g off L.ow L.rows*F)))))):Sat w0 w (lkP b L*F) :=
 Sat.ex_in v0 (Sat.ex_in v1 (Sat.ex_in v2 (Sat.ex_in g (Sat.ex_in off (Sat.ex_in cap (hs.perm (by unfold lkV;ac_rfl)))))))
def lkG (b g off cap:Nat) (L:Lk):HP:=ex fun v0=>ex fun v1=>ex fun v2=>lkV b L v0 v1 v2 g off cap
theorem zaB {w0 w:World} {F:HP} {b:Nat} {L:Lk} {v0 v1 v2:Value} {g off cap:Nat} (hs:Sat w0 w (pts b 0 [v0,v1,v2,.slice (some ⟨g,off,none⟩) L.ow.length cap]*(z5 .i64 v0 L.own*(z5 .i64 v1 L.now*(z5 .i64 v2 L.on*(z2Q g off L.ow L.rows*F)))))):Sat w0 w (lkG b g off cap L*F) :=
 Sat.ex_in v0 (Sat.ex_in v1 (Sat.ex_in v2 (hs.perm (by unfold lkV;ac_rfl))))
theorem zd5 {w0 w:World} {F:HP} {b:Nat} {L:Lk} {g off cap:Nat} (hs:Sat w0 w (lkG b g off cap L*F)):Sat w0 w (lkP b L*F):=by
 obtain ⟨v0,hs⟩:=hs.ex_out;obtain ⟨v1,hs⟩:=hs.ex_out;obtain ⟨v2,hs⟩:=hs.ex_out;exact Sat.ex_in v0 (Sat.ex_in v1 (Sat.ex_in v2 (Sat.ex_in g (Sat.ex_in off (Sat.ex_in cap hs)))))
theorem zfE {w0 w:World} {F:HP} {b:Nat} {L:Lk} (hs:Sat w0 w (lkP b L*F)):∃ g off cap,Sat w0 w (lkG b g off cap L*F):=by
 obtain ⟨v0,hs⟩:=hs.ex_out;obtain ⟨v1,hs⟩:=hs.ex_out;obtain ⟨v2,hs⟩:=hs.ex_out;obtain ⟨g,hs⟩:=hs.ex_out;obtain ⟨off,hs⟩:=hs.ex_out;obtain ⟨cap,hs⟩:=hs.ex_out;exact ⟨g,off,cap,Sat.ex_in v0 (Sat.ex_in v1 (Sat.ex_in v2 hs))⟩
theorem z3J {w0 w:World} {F:HP} {b g off cap:Nat} {L:Lk} (hs:Sat w0 w (lkG b g off cap L*F)) (hL:Fit L):∃ a0 c0 a1 c1 a2 c2,(0<L.own.length→(∃ g0 o0,a0=some ⟨g0,o0,none⟩)∧(∃ g1 o1,a1=some ⟨g1,o1,none⟩)∧(∃ g2 o2,a2=some ⟨g2,o2,none⟩)) ∧
  Sat w0 w (pts b 0 [.slice a0 L.own.length c0,.slice a1 L.own.length c1,.slice a2 L.own.length c2,.slice (some ⟨g,off,none⟩) L.ow.length cap]*(z5 .i64 (.slice a0 L.own.length c0) L.own*(z5 .i64 (.slice a1 L.own.length c1) L.now*(z5 .i64 (.slice a2 L.own.length c2) L.on*(z2Q g off L.ow L.rows*F))))):=by
 obtain ⟨v0,hs⟩:=hs.ex_out;obtain ⟨v1,hs⟩:=hs.ex_out;obtain ⟨v2,hs⟩:=hs.ex_out;have h0:Sat w0 w (z5 .i64 v0 L.own*(z5 .i64 v1 L.now*(z5 .i64 v2 L.on*(pts b 0 [v0,v1,v2,.slice (some ⟨g,off,none⟩) L.ow.length cap]*(z2Q g off L.ow L.rows*F))))):=hs.perm (by unfold lkV;ac_rfl);obtain ⟨a0,c0,rfl⟩:=h0.slice_form;have h1:=h0.perm (by ac_rfl:_=z5 .i64 v1 L.now*(z5 .i64 (.slice a0 L.own.length c0) L.own*(z5 .i64 v2 L.on*(pts b 0 [.slice a0 L.own.length c0,v1,v2,.slice (some ⟨g,off,none⟩) L.ow.length cap]*(z2Q g off L.ow L.rows*F)))));obtain ⟨a1,c1,rfl⟩:=h1.slice_form;rw [hL.ln] at h1;have h2:=h1.perm (by ac_rfl:_=z5 .i64 v2 L.on*(z5 .i64 (.slice a0 L.own.length c0) L.own*(z5 .i64 (.slice a1 L.own.length c1) L.now*(pts b 0 [.slice a0 L.own.length c0,.slice a1 L.own.length c1,v2,.slice (some ⟨g,off,none⟩) L.ow.length cap]*(z2Q g off L.ow L.rows*F)))));obtain ⟨a2,c2,rfl⟩:=h2.slice_form;rw [hL.lo] at h2;refine ⟨a0,c0,a1,c1,a2,c2,fun hp=>⟨?_,?_,?_⟩,h2.perm (by ac_rfl)⟩
 ·exact Sat.someA h2 a0 (by omega)
 ·exact Sat.someA h2 a1 (by rw [hL.ln];omega)
 ·exact Sat.someA h2 a2 (by rw [hL.lo];omega)
theorem z0Q {w0 w:World} {F:HP} {b:Nat} {L:Lk} (hs:Sat w0 w (lkP b L*F)) (hL:Fit L):∃ a0 c0 a1 c1 a2 c2 g off cap,(0<L.own.length→(∃ g0 o0,a0=some ⟨g0,o0,none⟩)∧(∃ g1 o1,a1=some ⟨g1,o1,none⟩)∧(∃ g2 o2,a2=some ⟨g2,o2,none⟩)) ∧
  Sat w0 w (pts b 0 [.slice a0 L.own.length c0,.slice a1 L.own.length c1,.slice a2 L.own.length c2,.slice (some ⟨g,off,none⟩) L.ow.length cap]*(z5 .i64 (.slice a0 L.own.length c0) L.own*(z5 .i64 (.slice a1 L.own.length c1) L.now*(z5 .i64 (.slice a2 L.own.length c2) L.on*(z2Q g off L.ow L.rows*F))))):=by
 obtain ⟨g,off,cap,hs⟩:=zfE hs;obtain ⟨a0,c0,a1,c1,a2,c2,h1,h2⟩:=z3J hs hL;exact ⟨a0,c0,a1,c1,a2,c2,g,off,cap,h1,h2⟩
def z7n (v:Value):Nat:=(intOf v).toNat
theorem zd6 (b g off cap:Nat) (L:Lk) (K t:Nat) (w0 w:World) (F:HP) (hs:Sat w0 w (lkG b g off cap L*F)) (hL:Fit L) (ht:t<L.own.length) (hn:ziY L K t) :
  Calls Tryz.prog 162 #[.pointer (some ⟨b,0,none⟩),.int .i64 t] w fun en w'=>en=.returned (.tuple #[])∧∃ now',Fit { L with now:=now' }∧ziW { L with now:=now' } K∧Sat w0 w' (lkG b g off cap { L with now:=now' }*F):=by
 obtain ⟨a0,c0,a1,c1,a2,c2,hp,hs⟩:=z3J hs hL;obtain ⟨⟨g0,o0,rfl⟩,⟨g1,o1,rfl⟩,⟨g2,o2,rfl⟩⟩:=hp (by omega);obtain ⟨rk,hrk⟩:=hL.rank;have Hrk:=hid hrk;have HL:=hid hL;have Hn:=hid hn;have hn64:=hL.n;clear hn hrk hL hp;haveI:z12 L.ow L.rows:=⟨HL.out.lr⟩
 go_enter Tryz.func162,Tryz.ntmps162
 go_wp2_with fail
 go_loopw [1] (fun i wr=>∃ (x:Nat) (now':List Int),x<L.own.length∧i=.int .i64 x∧Fit { L with now:=now' }∧ziY { L with now:=now' } K x ∧
   Sat w0 wr (pts b 0 [.slice (some ⟨g0,o0,none⟩) L.own.length c0,.slice (some ⟨g1,o1,none⟩) L.own.length c1,.slice (some ⟨g2,o2,none⟩) L.own.length c2,.slice (some ⟨g,off,none⟩) L.ow.length cap]*(z5 .i64 (.slice (some ⟨g0,o0,none⟩) L.own.length c0) L.own*(z5 .i64 (.slice (some ⟨g1,o1,none⟩) L.own.length c1) now'*(z5 .i64 (.slice (some ⟨g2,o2,none⟩) L.own.length c2) L.on*(z2Q g off L.ow L.rows*F)))))) (fun i _=>rk (z7n i))
 case atStart=>exact ⟨t,L.now,ht,rfl,HL.out,Hn.out,z3⟩
 case round =>
  obtain ⟨x,now',hx,rfl,hfit,hnear,hs2⟩:=hrel;clear hs;have Hfit:=hid hfit;have Hnear:=hid hnear;have i1:(x:Int)<(L.own.length:Int):=by omega
  have i2:decide (x<L.own.length)=true:=by simp;omega
  haveI:Lt x L.on.length:=⟨by rw [HL.out.lo];exact hx⟩;haveI:Lt x now'.length:=⟨by have:=Hfit.out.ln;dsimp only at this;rw [this];exact hx⟩;clear hfit hnear
  by_cases ho:0≤lg L.on x
  ·have e1:decide (0≤lg L.on x)=true:=by simp [ho]
   have hon:=Hfit.out.onr x hx;have ho2:0≤z0N { L with now:=now' } x:=ho;have hnl:=zaK Hfit.out hx ho2;have hnn:=znA Hfit.out hx ho2;have Hrx:=hid (Hrk.out x hx ho);obtain ⟨m,hm⟩:=Int.eq_ofNat_of_zero_le ho;have hm2:m<L.ow.length:=by
    rcases hon with h | ⟨_,h,_,_⟩
    ·have h':lg L.on x=-1:=h;omega
    ·have h':lg L.on x<L.ow.length:=h;omega
   have hy0:0≤lg L.ow m∧lg L.ow m<L.own.length:=by
    rcases hon with h | ⟨_,_,h3,h4⟩
    ·have h':lg L.on x=-1:=h;omega
    ·have h5:0≤lg L.ow (lg L.on x).toNat:=h3;have h6:lg L.ow (lg L.on x).toNat<L.own.length:=h4;rw [hm] at h5 h6;exact ⟨h5,h6⟩
   obtain ⟨y,hy⟩:=Int.eq_ofNat_of_zero_le hy0.1;have hyl:y<L.own.length:=by omega
   have Hnx:Hid (nx { L with now:=now' } x=y):=by
    unfold Hid nx;show (lg L.ow (lg L.on x).toNat).toNat=y;rw [hm];show (lg L.ow m).toNat=y;rw [hy];rfl
   have Hnx2:Hid (nx L x=y):=Hnx;rw [Hnx.out] at hnl hnn;have Hnn:=hid hnn;have Ho2:=hid ho2;have j1:(m:Int)<(L.ow.length:Int):=by omega
   have j2:decide (m<L.ow.length)=true:=by simp;omega
   have j3:(y:Int)<(L.own.length:Int):=by omega
   have j4:decide (y<L.own.length)=true:=by simp;omega
   haveI:Lt m L.ow.length:=⟨hm2⟩;haveI:Lt y now'.length:=⟨by have:=Hfit.out.ln;dsimp only at this;rw [this];exact hyl⟩;clear hon hy0 hnl hnn ho ho2
   by_cases hle:lg now' y≤lg now' x
   ·have e2:decide (lg now' y≤lg now' x)=true:=by simp [hle]
    have Hle:=hid hle;clear hle;go_wp2_with fail;go_quiet (fail);go_wp2_with fail;refine z9 (w0:=w0) ?_;intro wq hsq;go_quiet (fail);go_wp2_with fail;go_returns;refine ⟨rfl,now',Hfit.out,zaI Hnear.out fun _=>?_,zaB (v0:=.slice (some ⟨g0,o0,none⟩) L.own.length c0) (v1:=.slice (some ⟨g1,o1,none⟩) L.own.length c1) (v2:=.slice (some ⟨g2,o2,none⟩) L.own.length c2) (g:=g) (off:=off) (cap:=cap) z3⟩;rw [Hnx.out];exact Hle.out
   ·have e2:decide (lg now' y≤lg now' x)=false:=by simp [hle]
    have Hle:=hid hle;clear hle;go_wp2_with fail;go_quiet (fail);go_wp2_with fail;refine z9 (w0:=w0) ?_;intro wq hsq;go_quiet (fail);go_wp2_with fail;refine z9 (w0:=w0) ?_;intro wz hsz
    go_still_tail 13,(by kernel_rfl)
    change wpList _ _ _ _ _ wz.drew
    go_wp2_with fail;go_roundw
    case rel =>
     have h7:=zfZ Hfit.out hx Hnear.out Ho2.out (by rw [Hnx.out];show lg now' x<lg now' y;have:=Hle.out;omega) (by rw [Hnx.out];exact Hnn.out);rw [Hnx.out] at h7;refine ⟨y,now'.set y (lg now' x),hyl,rfl,?_,h7,z3⟩;exact zdF Hfit.out hyl (Hfit.out.nowr x hx)
    case measure =>
     have:=Hrx.out;rw [Hnx2.out] at this;exact this
  ·have e1:decide (0≤lg L.on x)=false:=by simp;omega
   have Ho:=hid ho;clear ho;go_wp2_with fail;go_returns;exact ⟨rfl,now',Hfit.out,zaI Hnear.out (fun h=>by have h1:=Ho.out;have h2:0≤lg L.on x:=h;omega),zaB (v0:=.slice (some ⟨g0,o0,none⟩) L.own.length c0) (v1:=.slice (some ⟨g1,o1,none⟩) L.own.length c1) (v2:=.slice (some ⟨g2,o2,none⟩) L.own.length c2) (g:=g) (off:=off) (cap:=cap) z3⟩
theorem zkx (b:Nat) (L:Lk) (K t:Nat) (w0 w:World) (F:HP) (hs:Sat w0 w (lkP b L*F)) (hL:Fit L) (ht:t<L.own.length) (hn:ziY L K t) :
  Calls Tryz.prog 162 #[.pointer (some ⟨b,0,none⟩),.int .i64 t] w fun en w'=>en=.returned (.tuple #[])∧∃ now',Fit { L with now:=now' }∧ziW { L with now:=now' } K∧Sat w0 w' (lkP b { L with now:=now' }*F):=by
 obtain ⟨g,off,cap,hs⟩:=zfE hs;exact (zd6 b g off cap L K t w0 w F hs hL ht hn).mono fun en w' ⟨h1,n,h2,h3,h4⟩=>⟨h1,n,h2,h3,zd5 h4⟩
theorem z47 {L:Lk} {s t:Nat} (ho:0≤z0N L s) (h:Go.Lk.Reach L (nx L s) t):Go.Lk.Reach L s t:=by
 induction h with
 | refl=>exact .step .refl ho
 | step _ ho' ih=>exact .step ih ho'
theorem z3T {L:Lk} {s t:Nat} (h:Go.Lk.Reach L s t) (hne:s≠t):0≤z0N L s∧Go.Lk.Reach L (nx L s) t:=by
 induction h with
 | refl=>exact absurd rfl hne
 | @step u hr ho ih =>
  by_cases e:s=u
  ·subst e;exact ⟨ho,.refl⟩
  ·obtain ⟨h1,h2⟩:=ih e;exact ⟨h1,.step h2 ho⟩
theorem zaA (b:Nat) (L:Lk) (t s:Nat) (g0 o0 c0 g1 o1 c1 g2 o2 c2 g off cap:Nat) (w0 w:World) (F:HP) (hs:Sat w0 w (pts b 0 [.slice (some ⟨g0,o0,none⟩) L.own.length c0,.slice (some ⟨g1,o1,none⟩) L.own.length c1,.slice (some ⟨g2,o2,none⟩) L.own.length c2,.slice (some ⟨g,off,none⟩) L.ow.length cap]*(z5 .i64 (.slice (some ⟨g0,o0,none⟩) L.own.length c0) L.own*(z5 .i64 (.slice (some ⟨g1,o1,none⟩) L.own.length c1) L.now*(z5 .i64 (.slice (some ⟨g2,o2,none⟩) L.own.length c2) L.on*(z2Q g off L.ow L.rows*F)))))) (hL:Fit L) (ht:t<L.own.length) (hsl:s<L.own.length) :
  Calls Tryz.prog 163 #[.pointer (some ⟨b,0,none⟩),.int .i64 t,.int .i64 s] w fun en w'=>∃ x:Bool,en=.returned (.bool x)∧(x=true↔Go.Lk.Reach L s t)∧Sat w0 w' (pts b 0 [.slice (some ⟨g0,o0,none⟩) L.own.length c0,.slice (some ⟨g1,o1,none⟩) L.own.length c1,.slice (some ⟨g2,o2,none⟩) L.own.length c2,.slice (some ⟨g,off,none⟩) L.ow.length cap]*(z5 .i64 (.slice (some ⟨g0,o0,none⟩) L.own.length c0) L.own*(z5 .i64 (.slice (some ⟨g1,o1,none⟩) L.own.length c1) L.now*(z5 .i64 (.slice (some ⟨g2,o2,none⟩) L.own.length c2) L.on*(z2Q g off L.ow L.rows*F))))):=by
 obtain ⟨rk,hrk⟩:=hL.rank;have Hrk:=hid hrk;have HL:=hid hL;have hn64:=hL.n;clear hrk hL;haveI:z12 L.ow L.rows:=⟨HL.out.lr⟩
 go_enter Tryz.func163,Tryz.ntmps163
 go_wp2_with fail
 go_step3
 go_wp2_with fail
 go_step3
 go_wp2_with fail
 go_loopw [2] (fun i wr=>∃ x:Nat,x<L.own.length∧i=.int .i64 x∧(Go.Lk.Reach L s t↔Go.Lk.Reach L x t) ∧
   Sat w0 wr (pts b 0 [.slice (some ⟨g0,o0,none⟩) L.own.length c0,.slice (some ⟨g1,o1,none⟩) L.own.length c1,.slice (some ⟨g2,o2,none⟩) L.own.length c2,.slice (some ⟨g,off,none⟩) L.ow.length cap]*(z5 .i64 (.slice (some ⟨g0,o0,none⟩) L.own.length c0) L.own*(z5 .i64 (.slice (some ⟨g1,o1,none⟩) L.own.length c1) L.now*(z5 .i64 (.slice (some ⟨g2,o2,none⟩) L.own.length c2) L.on*(z2Q g off L.ow L.rows*F)))))) (fun i _=>rk (z7n i))
 case atStart=>exact ⟨s,hsl,rfl,Iff.rfl,z3⟩
 case round =>
  obtain ⟨x,hx,rfl,hiff,hs2⟩:=hrel;have Hiff:=hid hiff;clear hs hiff;have i1:(x:Int)<(L.own.length:Int):=by omega
  have i2:decide (x<L.own.length)=true:=by simp;omega
  haveI:Lt x L.on.length:=⟨by rw [HL.out.lo];exact hx⟩
  by_cases hxt:x=t
  ·have e0:((x:Int)==(t:Int))=true:=by simp [hxt]
   have Hxt:=hid hxt;clear hxt;go_wp2_with fail;rw [Exit.noGoto_ret];go_returns;exact ⟨true,rfl,⟨fun _=>Hiff.out.2 (by rw [Hxt.out];exact .refl),fun _=>rfl⟩,z3⟩
  ·have e0:((x:Int)==(t:Int))=false:=by simp;omega
   have Hxt:=hid hxt;clear hxt
   by_cases ho:0≤lg L.on x
   ·have e1:decide (lg L.on x<0)=false:=by simp;omega
    have hon:=HL.out.onr x hx;have ho2:0≤z0N L x:=ho;have hnl:=zaK HL.out hx ho2;have Hrx:=hid (Hrk.out x hx ho);obtain ⟨m,hm⟩:=Int.eq_ofNat_of_zero_le ho;have hm2:m<L.ow.length:=by
     rcases hon with h | ⟨_,h,_,_⟩
     ·have h':lg L.on x=-1:=h;omega
     ·have h':lg L.on x<L.ow.length:=h;omega
    have hy0:0≤lg L.ow m∧lg L.ow m<L.own.length:=by
     rcases hon with h | ⟨_,_,h3,h4⟩
     ·have h':lg L.on x=-1:=h;omega
     ·have h5:0≤lg L.ow (lg L.on x).toNat:=h3;have h6:lg L.ow (lg L.on x).toNat<L.own.length:=h4;rw [hm] at h5 h6;exact ⟨h5,h6⟩
    obtain ⟨y,hy⟩:=Int.eq_ofNat_of_zero_le hy0.1;have hyl:y<L.own.length:=by omega
    have Hnx:Hid (nx L x=y):=by
     unfold Hid nx;show (lg L.ow (lg L.on x).toNat).toNat=y;rw [hm];show (lg L.ow m).toNat=y;rw [hy];rfl
    have Ho2:=hid ho2;have j1:(m:Int)<(L.ow.length:Int):=by omega
    have j2:decide (m<L.ow.length)=true:=by simp;omega
    haveI:Lt m L.ow.length:=⟨hm2⟩;clear hon hy0 hnl ho ho2;go_wp2_with fail;go_quiet (fail);go_wp2_with fail;go_roundw
    case rel =>
     refine ⟨y,hyl,rfl,?_,z3⟩;rw [Hiff.out,← Hnx.out];exact ⟨fun h=>(z3T h Hxt.out).2,fun h=>z47 Ho2.out h⟩
    case measure =>
     have:=Hrx.out;rw [Hnx.out] at this;exact this
   ·have e1:decide (lg L.on x<0)=true:=by simp;omega
    have Ho:Hid (¬ 0≤z0N L x):=ho;clear ho;go_wp2_with fail;go_returns;exact ⟨false,rfl,⟨fun h=>(by cases h),fun h=>absurd (z3T (Hiff.out.1 h) Hxt.out).1 (by have:=Ho.out;omega)⟩,z3⟩
theorem zgn {x y:Bool} (h:x=y):Ending.returned (.bool x)=Ending.returned (.bool y):=by rw [h]
theorem zml (b:Nat) (L:Lk) (t:Int) (w0 w:World) (F:HP) (hs:Sat w0 w (lkP b L*F)) (hL:Fit L) :
    Calls Tryz.prog 149 #[.pointer (some ⟨b, 0, none⟩), .int .i64 t] w fun en w' => en=.returned (.bool (decide (0≤t∧t<L.own.length)))∧Sat w0 w' (lkP b L*F) := by
  obtain ⟨a0, c0, a1, c1, a2, c2, g, off, cap, hp, hs⟩ := z0Q hs hL;have hn64 := hL.n
  by_cases h:0≤t
  all_goals
    first | have d:decide (0≤t)=true := by simp [h]
          | have d:decide (0≤t)=false := by simp; omega
    go_enter Tryz.func149, Tryz.ntmps149
    go_wp2_with fail;go_ret;refine ⟨zgn ?_, z3K (v0 := .slice a0 L.own.length c0) (v1 := .slice a1 L.own.length c1) (v2 := .slice a2 L.own.length c2) (g := g) (off := off) (cap := cap) z3⟩
    first | done | (refine Bool.eq_iff_iff.2 ?_; simp; done) | (refine Bool.eq_iff_iff.2 ?_; simp; omega)
theorem znr (b:Nat) (L:Lk) (t:Int) (w0 w:World) (F:HP) (hs:Sat w0 w (lkP b L*F)) (hL:Fit L) :
    Calls Tryz.prog 81 #[.pointer (some ⟨b, 0, none⟩), .int .i64 t] w fun en w' => en=.returned (.bool (decide (0≤t∧t<L.ow.length)))∧Sat w0 w' (lkP b L*F) := by
  obtain ⟨a0, c0, a1, c1, a2, c2, g, off, cap, hp, hs⟩ := z0Q hs hL;have hn64 := hL.m
  by_cases h:0≤t
  all_goals
    first | have d:decide (0≤t)=true := by simp [h]
          | have d:decide (0≤t)=false := by simp; omega
    go_enter Tryz.func81, Tryz.ntmps81
    go_wp2_with fail;go_ret;refine ⟨zgn ?_, z3K (v0 := .slice a0 L.own.length c0) (v1 := .slice a1 L.own.length c1) (v2 := .slice a2 L.own.length c2) (g := g) (off := off) (cap := cap) z3⟩
    first | done | (refine Bool.eq_iff_iff.2 ?_; simp; done) | (refine Bool.eq_iff_iff.2 ?_; simp; omega)
theorem z1p (b:Nat) (L:Lk) (t:Int) (x:Bool) (hx:decide (0≤t∧t<L.own.length)=x) (w0 w:World) (F:HP) (hs:Sat w0 w (lkP b L*F)) (hL:Fit L) :
  Calls Tryz.prog 149 #[.pointer (some ⟨b,0,none⟩),.int .i64 t] w (zp w0 (.bool x) (lkP b L*F)):=by
 subst hx;exact zml b L t w0 w F hs hL
theorem z2O (b:Nat) (L:Lk) (t:Int) (x:Bool) (hx:decide (0≤t∧t<L.ow.length)=x) (w0 w:World) (F:HP) (hs:Sat w0 w (lkP b L*F)) (hL:Fit L) :
  Calls Tryz.prog 81 #[.pointer (some ⟨b,0,none⟩),.int .i64 t] w (zp w0 (.bool x) (lkP b L*F)):=by
 subst hx;exact znr b L t w0 w F hs hL
def z1D (L:Lk) (m:Int):Int:=if 0≤m∧m<L.ow.length then lg L.ow m.toNat else 255
theorem zkv (b:Nat) (L:Lk) (m:Int) (w0 w:World) (F:HP) (hs:Sat w0 w (lkP b L*F)) (hL:Fit L) :
  Calls Tryz.prog 56 #[.pointer (some ⟨b,0,none⟩),.int .i64 m] w (zp w0 (.int .i64 (z1D L m)) (lkP b L*F)):=by
 by_cases h:0≤m∧m<L.ow.length
 ·have e:z1D L m=lg L.ow m.toNat:=if_pos h;rw [e];obtain ⟨k,rfl⟩:=Int.eq_ofNat_of_zero_le h.1;have hk:k<L.ow.length:=by omega
  have j1:(k:Int)<(L.ow.length:Int):=by omega
  have j2:decide (k<L.ow.length)=true:=by simp;omega
  haveI:Lt k L.ow.length:=⟨hk⟩;haveI:z12 L.ow L.rows:=⟨hL.lr⟩;have hn64:=hL.m
  go_enter Tryz.func56,Tryz.ntmps56
  go_wp2_with fail;refine (z2O b L k true (decide_eq_true h) w0 _ F hs hL).mono ?_;rintro en w1 ⟨rfl,hs1⟩;obtain ⟨a0,c0,a1,c1,a2,c2,g,off,cap,hp,hs1⟩:=z0Q hs1 hL;clear hs h;go_wp2_with fail;go_ret;exact ⟨rfl,z3K (v0:=.slice a0 L.own.length c0) (v1:=.slice a1 L.own.length c1) (v2:=.slice a2 L.own.length c2) (g:=g) (off:=off) (cap:=cap) z3⟩
 ·have e:z1D L m=255:=if_neg h;rw [e]
  go_enter Tryz.func56,Tryz.ntmps56
  go_wp2_with fail;refine (z2O b L m false (decide_eq_false h) w0 _ F hs hL).mono ?_;rintro en w1 ⟨rfl,hs1⟩;go_wp2_with fail;go_ret;exact ⟨rfl,hs1⟩
theorem zhG (b:Nat) (L:Lk) (w0 w:World) (F:HP) (hs:Sat w0 w (lkP b L*F)) (hL:Fit L) :
  Calls Tryz.prog 93 #[.pointer (some ⟨b,0,none⟩)] w (Ret w0 fun v=>z5 .i64 v L.now*(lkP b L*F)):=by
 obtain ⟨a0,c0,a1,c1,a2,c2,g,off,cap,hp,hs⟩:=z0Q hs hL;have hn64:=hL.n;have hln:=hL.ln;have Hln:=hid hln;clear hln
 go_enter Tryz.func93,Tryz.ntmps93
 go_wp2_with fail;refine (z0V _ L.now w0 _ _ hs rd (by have:=Hln.out;omega)).mono ?_;rintro en w1 ⟨v,rfl,hs1⟩;obtain ⟨av,cv,rfl⟩:=hs1.slice_form;go_wp2_with fail;go_ret;refine ⟨_,rfl,?_⟩;have h2:Sat w0 w1 (lkP b L*(z5 .i64 (.slice av L.now.length cv) L.now*F)):=z3K (v0:=.slice a0 L.own.length c0) (v1:=.slice a1 L.own.length c1) (v2:=.slice a2 L.own.length c2) (g:=g) (off:=off) (cap:=cap) z3;exact h2.perm (by ac_rfl)
end Go.Proofs.YtgiiidminlhbpaaGreatDoor
