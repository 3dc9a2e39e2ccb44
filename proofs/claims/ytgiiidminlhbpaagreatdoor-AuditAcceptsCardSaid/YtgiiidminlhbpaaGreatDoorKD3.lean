/-
  Parts of the proof: LockE LockF LockG LockH LockI LockK LockL RegionD LockM LockJ LockN LockQ.
-/
import Derived.BigQuiet
import Derived.Deep.DeepCutAuto
import Derived.Test.YtgiiidminlhbpaaGreatDoorKD1
import Derived.Test.YtgiiidminlhbpaaGreatDoorKD2
set_option linter.unusedVariables false
set_option linter.unusedSimpArgs false
set_option maxHeartbeats 32000000
set_option maxRecDepth 100000
namespace Go.Lk
open Go.Proofs.YtgiiidminlhbpaaGreatDoor (z2g rg z7F z47)
theorem zaU {L L':Lk} (hf:Fit L) (h:∀ x,x<L.own.length→0≤z0N L x→0≤z0N L' x∧nx L' x=nx L x) {s t:Nat} (hs:s<L.own.length) (hr:Go.Lk.Reach L s t):Go.Lk.Reach L' s t:=by
 induction hr with
 | refl=>exact .refl
 | step hr' ho ih =>
  obtain ⟨h1,h2⟩:=h _ (z6x hf hs hr') ho;rw [← h2];exact .step ih h1
def z4d (L:Lk) (m t:Nat):Lk:={ L with ow:=L.ow.set m t }
theorem z9I {L:Lk} {m t:Nat} (hm:m<L.ow.length) (k:Nat):z3O (z4d L m t) k=if k=m then (t:Int) else z3O L k:=z2g hm t k
theorem zco {L:Lk} (hf:Fit L) {m t:Nat} (hm:m<L.ow.length) (ho:z3O L m=255) {x:Nat} (hx:x<L.own.length) (hox:0≤z0N L x):nx (z4d L m t) x=nx L x:=by
 have hne:(z0N L x).toNat≠m:=by
  rcases hf.onr x hx with e | ⟨_,_,_,h4⟩
  ·omega
  ·intro e;rw [e,ho] at h4;have:=hf.n;omega
 unfold nx;show (z3O (z4d L m t) (z0N L x).toNat).toNat=_;rw [z9I hm,if_neg hne]
theorem z6l {L:Lk} (hf:Fit L) {m t:Nat} (hm:m<L.ow.length) (ho:z3O L m=255) (ht:t<L.own.length):Fit (z4d L m t):=by
 have hlen:(z4d L m t).ow.length=L.ow.length:=by unfold z4d;rw [List.length_set]
 refine ⟨hf.n,hf.ln,hf.lo,by rw [hlen];exact hf.m,by rw [hlen];exact hf.lr,hf.ownr,hf.nowr,fun x hx=>?_,fun k hk=>?_,fun k hk=>?_,?_⟩
 ·have hne:0≤z0N L x→(z0N L x).toNat≠m:=fun hox=>by
   rcases hf.onr x hx with e | ⟨_,_,_,h4⟩
   ·omega
   ·intro e;rw [e,ho] at h4;have:=hf.n;omega
  rcases hf.onr x hx with e | ⟨h1,h2,h3,h4⟩
  ·exact .inl e
  ·refine .inr ⟨h1,by rw [hlen];exact h2,?_,?_⟩
   ·show 0≤z3O (z4d L m t) (z0N L x).toNat;rw [z9I hm,if_neg (hne h1)];exact h3
   ·show z3O (z4d L m t) (z0N L x).toNat<_;rw [z9I hm,if_neg (hne h1)];exact h4
 ·rw [hlen] at hk;rw [z9I hm]
  split
  ·exact .inr ⟨by omega,by show (t:Int)<(L.own.length:Int);omega⟩
  ·exact hf.owr k hk
 ·rw [hlen] at hk;exact hf.row k hk
 ·obtain ⟨rk,hk⟩:=hf.rank;exact ⟨rk,fun x hx hox=>by rw [zco hf hm ho hx hox];exact hk x hx hox⟩
theorem z9c {L:Lk} (hf:Fit L) (hl:Lev L) {m t:Nat} (hm:m<L.ow.length) (ho:z3O L m=255):Lev (z4d L m t) :=
 ⟨hl.up,fun x hx hox=>by rw [zco hf hm ho hx hox];exact hl.edge x hx hox,fun x hx=>by
  obtain ⟨s,hs,hr,e⟩:=hl.att x hx;exact ⟨s,hs,zaU (L':=z4d L m t) hf (fun y hy hoy=>⟨hoy,zco hf hm ho hy hoy⟩) hs hr,e⟩⟩
def z32 (L:Lk) (m t:Nat):Lk:={ L with on:=L.on.set t m,rows:=L.rows.set m (rg L.rows m++[(t:Int)]) }
theorem z3j {L:Lk} {m t:Nat} (ht:t<L.on.length) (x:Nat):z0N (z32 L m t) x=if x=t then (m:Int) else z0N L x:=z2g ht m x
theorem zcv {L:Lk} {m t:Nat} (ht:t<L.on.length) {x:Nat} (hx:x≠t):nx (z32 L m t) x=nx L x:=by
 unfold nx;rw [z3j ht,if_neg hx];rfl
theorem ziR {L:Lk} {m t:Nat} (ht:t<L.on.length):nx (z32 L m t) t=(z3O L m).toNat:=by
 unfold nx;rw [z3j ht,if_pos rfl];rfl
theorem zcN {L:Lk} (hf:Fit L) {m t:Nat} (hm:m<L.ow.length) (ht:t<L.own.length) (hot:z0N L t=-1) (h0:0≤z3O L m∧z3O L m<L.own.length) (hno:¬ Go.Lk.Reach L (z3O L m).toNat t):Fit (z32 L m t):=by
 have hlo:t<L.on.length:=by rw [hf.lo];exact ht
 have hmr:m<L.rows.length:=by rw [hf.lr];exact hm
 refine ⟨hf.n,hf.ln,by unfold z32;rw [List.length_set];exact hf.lo,hf.m,by unfold z32;rw [List.length_set];exact hf.lr,hf.ownr,hf.nowr,fun x hx=>?_,hf.owr,fun k hk=>?_,?_⟩
 ·by_cases e:x=t
  ·subst e
   right
   rw [z3j hlo,if_pos rfl];exact ⟨by omega,by show (m:Int)<(L.ow.length:Int);omega,h0.1,h0.2⟩
  ·rw [z3j hlo,if_neg e];exact hf.onr x hx
 ·have hr:=hf.row k hk;have hrow:rowAt (z32 L m t) k=if k=m then rg L.rows m++[(t:Int)] else rowAt L k:=z7F hmr _ k;rw [hrow];have hmem:∀ z:Int,(0≤z∧z<(z32 L m t).own.length∧z0N (z32 L m t) z.toNat=k)↔((0≤z∧z<L.own.length∧z0N L z.toNat=k)∨(z=t∧k=m)):=fun z=>by
   rw [z3j hlo];show (0≤z∧z<(L.own.length:Int)∧_)↔_
   by_cases e:z.toNat=t
   ·rw [if_pos e]
    constructor
    ·rintro ⟨a,b,c⟩;right;omega
    ·rintro (⟨a,b,c⟩ | ⟨a,b⟩)
     ·rw [e,hot] at c;omega
     ·omega
   ·rw [if_neg e]
    constructor
    ·exact .inl
    ·rintro (h | ⟨a,b⟩)
     ·exact h
     ·omega
  by_cases e:k=m
  ·subst e;rw [if_pos rfl];have hnot:(t:Int) ∉ rg L.rows k:=fun h=>by
    have:=((hr.2 t).1 h).2.2;rw [show ((t:Int)).toNat=t by omega,hot] at this;omega
   refine ⟨?_,fun z=>?_⟩
   ·rw [List.nodup_append];refine ⟨hr.1,by simp,fun a ha b hb=>?_⟩;rw [List.mem_singleton] at hb;subst hb;rintro rfl;exact hnot ha
   ·rw [List.mem_append,List.mem_singleton,hmem z];have h2:=hr.2 z
    constructor
    ·rintro (h | h)
     ·exact .inl (h2.1 h)
     ·exact .inr ⟨h,rfl⟩
    ·rintro (h | ⟨h,_⟩)
     ·exact .inl (h2.2 h)
     ·exact .inr h
  ·rw [if_neg e];refine ⟨hr.1,fun z=>?_⟩;rw [hmem z,hr.2 z];exact ⟨.inl,fun h=>h.resolve_right fun hh=>e hh.2⟩
 ·obtain ⟨rk,hk⟩:=hf.rank
  classical
  refine ⟨fun x=>if Go.Lk.Reach L x t then rk x+rk (z3O L m).toNat+1 else rk x,fun x hx hox=>?_⟩
  by_cases e:x=t
  ·subst e;rw [ziR hlo];dsimp only;rw [if_neg hno,if_pos .refl];omega
  ·rw [zcv hlo e];rw [z3j hlo,if_neg e] at hox;have h1:=hk x hx hox;dsimp only
   by_cases hr:Go.Lk.Reach L (nx L x) t
   ·rw [if_pos hr,if_pos (z47 hox hr)];omega
   ·rw [if_neg hr]
    split<;>omega
theorem zg0 {L:Lk} (hf:Fit L) (hl:Lev L) {m t:Nat} (ht:t<L.own.length) (hot:z0N L t=-1):ziY (z32 L m t) L.own.length t:=by
 have hlo:t<L.on.length:=by rw [hf.lo];exact ht
 refine ⟨hl.up,fun x hx hxk hxt hox=>?_,fun x hx=>?_⟩
 ·rw [zcv hlo hxt];rw [z3j hlo,if_neg hxt] at hox;exact hl.edge x hx hox
 ·obtain ⟨s,hs,hr,e⟩:=hl.att x hx;refine ⟨s,hs,zaU hf (fun y hy hoy=>?_) hs hr,e⟩;have hyt:y≠t:=by rintro rfl;omega
  rw [z3j hlo,if_neg hyt];exact ⟨hoy,zcv hlo hyt⟩
end Go.Lk
namespace Go.Proofs.YtgiiidminlhbpaaGreatDoor
open Go.RowKit Go.Sx Go.Lk
theorem zbX (b:Nat) (L:Lk) (t m:Int) (w0 w:World) (F:HP) (hs:Sat w0 w (lkP b L*F)) (hL:Fit L) (ht:¬ (0≤t∧t<L.own.length)) :
  Calls Tryz.prog 152 #[.pointer (some ⟨b,0,none⟩),.int .i64 t,.int .i64 m] w (zp w0 (.tuple #[.bool false,.int .i64 1]) (lkP b L*F)):=by
 go_enter Tryz.func152,Tryz.ntmps152
 go_wp2_with fail;refine (z1p b L t false (decide_eq_false ht) w0 _ F hs hL).mono ?_;rintro en w1 ⟨rfl,hs1⟩;go_wp2_with fail;go_ret2;exact ⟨rfl,hs1⟩
theorem zaC (b:Nat) (L:Lk) (t:Nat) (m:Int) (w0 w:World) (F:HP) (hs:Sat w0 w (lkP b L*F)) (hL:Fit L) (ht:t<L.own.length) (ho:0≤lg L.on t) :
  Calls Tryz.prog 152 #[.pointer (some ⟨b,0,none⟩),.int .i64 t,.int .i64 m] w (zp w0 (.tuple #[.bool false,.int .i64 1]) (lkP b L*F)):=by
 have j1:(t:Int)<(L.own.length:Int):=by omega
 have j2:decide (t<L.own.length)=true:=by simp;omega
 haveI:Lt t L.on.length:=⟨by rw [hL.lo];exact ht⟩;have hn64:=hL.n;have e1:decide (0≤lg L.on t)=true:=by simp [ho]
 clear ho
 go_enter Tryz.func152,Tryz.ntmps152
 go_wp2_with fail;refine (z1p b L t true (decide_eq_true ⟨by omega,j1⟩) w0 _ F hs hL).mono ?_;rintro en w1 ⟨rfl,hs1⟩;obtain ⟨a0,c0,a1,c1,a2,c2,g,off,cap,hp,hs1⟩:=z0Q hs1 hL;obtain ⟨⟨g0,o0,rfl⟩,⟨g1,o1,rfl⟩,⟨g2,o2,rfl⟩⟩:=hp (by omega);clear hs hp;go_wp2_with fail;go_ret2;exact ⟨rfl,z3K (v0:=.slice (some ⟨g0,o0,none⟩) L.own.length c0) (v1:=.slice (some ⟨g1,o1,none⟩) L.own.length c1) (v2:=.slice (some ⟨g2,o2,none⟩) L.own.length c2) (g:=g) (off:=off) (cap:=cap) z3⟩
theorem zbW (b:Nat) (L:Lk) (t m:Nat) (w0 w:World) (F:HP) (hs:Sat w0 w (lkP b L*F)) (hL:Fit L) (ht:t<L.own.length) (ho:lg L.on t=-1) (hm:m<L.ow.length) (hfree:lg L.ow m=255) :
  Calls Tryz.prog 152 #[.pointer (some ⟨b,0,none⟩),.int .i64 t,.int .i64 m] w (zp w0 (.tuple #[.bool true,.int .i64 0]) (lkP b (z4d L m t)*F)):=by
 have j1:(t:Int)<(L.own.length:Int):=by omega
 have j2:decide (t<L.own.length)=true:=by simp;omega
 have j3:(m:Int)<(L.ow.length:Int):=by omega
 have j4:decide (m<L.ow.length)=true:=by simp;omega
 haveI:Lt t L.on.length:=⟨by rw [hL.lo];exact ht⟩;haveI:Lt m L.ow.length:=⟨hm⟩;haveI:z12 L.ow L.rows:=⟨hL.lr⟩;have hn64:=hL.n;have hm32:=hL.m;have e1:decide (0≤lg L.on t)=false:=by simp;omega
 have e2:(lg L.ow m==(t:Int))=false:=by simp;omega
 have e3:(lg L.ow m==255)=true:=by simp [hfree]
 clear ho hfree
 go_enter Tryz.func152,Tryz.ntmps152
 go_wp2_with fail;refine (z1p b L t true (decide_eq_true ⟨by omega,j1⟩) w0 _ F hs hL).mono ?_;rintro en w1 ⟨rfl,hs1⟩;have hs1':=hs1;obtain ⟨a0,c0,a1,c1,a2,c2,g,off,cap,hp,hs2⟩:=z0Q hs1 hL;obtain ⟨⟨g0,o0,rfl⟩,⟨g1,o1,rfl⟩,⟨g2,o2,rfl⟩⟩:=hp (by omega);have H1:=hid hs1';clear hs hs1 hs1' hp;go_wp2_with fail;refine (z2O b L m true (decide_eq_true ⟨by omega,j3⟩) w0 _ F H1.out hL).mono ?_;rintro en w2 ⟨rfl,hs3⟩;clear hs2 H1;obtain ⟨a0,c0,a1,c1,a2,c2,g,off,cap,hp,hs3⟩:=z0Q hs3 hL;obtain ⟨⟨g0,o0,rfl⟩,⟨g1,o1,rfl⟩,⟨g2,o2,rfl⟩⟩:=hp (by omega);clear hp;go_wp2_with fail;go_ret2;refine ⟨rfl,z3K (L:=z4d L m t) (v0:=.slice (some ⟨g0,o0,none⟩) L.own.length c0) (v1:=.slice (some ⟨g1,o1,none⟩) L.own.length c1) (v2:=.slice (some ⟨g2,o2,none⟩) L.own.length c2) (g:=g) (off:=off) (cap:=cap) ?_⟩;dsimp only [z4d];rw [List.length_set];exact z3
theorem zi4 (g o i:Nat) (xs:List Int) (rs:List (List Int)) (hi:i<xs.length) (hl:rs.length=xs.length) (r:List Int) :
  z2Q g o xs (rs.set i r)=pts g (o+i*2) [.int .i64 (lg xs i)]*(zY g (o+i*2+1) r*z9m g o i xs rs):=by
 rw [z2h g o i xs (rs.set i r) hi (by rw [List.length_set];exact hl),z7F (by omega),if_pos rfl];have:=z6u g o i xs rs (lg xs i) r;rw [show xs.set i (lg xs i)=xs from z9D xs i 0] at this;rw [this]
theorem zbY (b:Nat) (L:Lk) (t m:Nat) (w0 w:World) (F:HP) (hs:Sat w0 w (lkP b L*F)) (hL:Fit L) (hv:Lev L) (ht:t<L.own.length) (ho:lg L.on t=-1) (hm:m<L.ow.length) (hown:lg L.ow m≠255) (hnt:lg L.ow m≠t) (hno:¬ Go.Lk.Reach L (lg L.ow m).toNat t) :
  Calls Tryz.prog 152 #[.pointer (some ⟨b,0,none⟩),.int .i64 t,.int .i64 m] w fun en w'=>en=.returned (.tuple #[.bool false,.int .i64 0])∧∃ now',Fit { z32 L m t with now:=now' }∧Lev { z32 L m t with now:=now' }∧Sat w0 w' (lkP b { z32 L m t with now:=now' }*F):=by
 have j1:(t:Int)<(L.own.length:Int):=by omega
 have j2:decide (t<L.own.length)=true:=by simp;omega
 have j3:(m:Int)<(L.ow.length:Int):=by omega
 have j4:decide (m<L.ow.length)=true:=by simp;omega
 haveI:Lt t L.on.length:=⟨by rw [hL.lo];exact ht⟩;haveI:Lt m L.ow.length:=⟨hm⟩;haveI:z12 L.ow L.rows:=⟨hL.lr⟩;have hn64:=hL.n;have hm32:=hL.m;have h0:0≤lg L.ow m∧lg L.ow m<L.own.length:=(hL.owr m hm).resolve_left hown;have hfw:=hid (zcN hL hm ht ho h0 hno);have hnw:=hid (zg0 (m:=m) hL hv ht ho);have hrow:=hL.row m hm;have hadd:Hid (z65 (rg L.rows m) t):=by
  refine ⟨by omega,by omega,fun h=>?_⟩;have:=((hrow.2 t).1 h).2.2;rw [show ((t:Int)).toNat=t by omega] at this;have h':lg L.on t=m:=this;omega
 have hrl:Hid ((rg L.rows m).length≤1000000):=by
  have:z2F (rg L.rows m):=⟨hrow.1,fun z hz=>by have:=(hrow.2 z).1 hz;omega⟩;have:=z0J this;unfold Hid;omega
 obtain ⟨y,hy⟩:=Int.eq_ofNat_of_zero_le h0.1;have hyl:y<L.own.length:=by omega
 have Hno:Hid (¬ Go.Lk.Reach L y t):=by unfold Hid;rw [hy] at hno;exact hno
 have e1:decide (0≤lg L.on t)=false:=by simp;omega
 have e2:(y==t)=false:=by simp;omega
 have e2b:((y:Int)==(t:Int))=false:=by simp;omega
 have e3:((y:Int)==255)=false:=by simp;omega
 have HL:=hid hL;clear ho hown hnt hno hrow h0 hv hL
 go_enter Tryz.func152,Tryz.ntmps152
 go_wp2_with fail;refine (z1p b L t true (decide_eq_true ⟨by omega,j1⟩) w0 _ F hs HL.out).mono ?_;rintro en w1 ⟨rfl,hs1⟩;have H1:=hid hs1;obtain ⟨a0,c0,a1,c1,a2,c2,g,off,cap,hp,hs2⟩:=z0Q hs1 HL.out;obtain ⟨⟨g0,o0,rfl⟩,⟨g1,o1,rfl⟩,⟨g2,o2,rfl⟩⟩:=hp (by omega);clear hs hs1 hp;go_wp2_with fail;refine (z2O b L m true (decide_eq_true ⟨by omega,j3⟩) w0 _ F H1.out HL.out).mono ?_;rintro en w2 ⟨rfl,hs3⟩;clear hs2 H1;have H3:=hid hs3;obtain ⟨a0,c0,a1,c1,a2,c2,g,off,cap,hp,hs4⟩:=z0Q hs3 HL.out;obtain ⟨⟨g0,o0,rfl⟩,⟨g1,o1,rfl⟩,⟨g2,o2,rfl⟩⟩:=hp (by omega);clear hp hs3;go_wp2_with fail;refine (zaA b L t y g0 o0 c0 g1 o1 c1 g2 o2 c2 g off cap w0 _ F z3 HL.out ht hyl).mono ?_;rintro en w3 ⟨x,rfl,hx,hs5⟩;obtain rfl:x=false:=by
  cases x
  ·rfl
  ·exact absurd (hx.1 rfl) Hno.out
 clear hs4 H3 hx;have Hmr:Hid (∀ r,z2Q g off L.ow (L.rows.set m r)=pts g (off+m*2) [.int .i64 (lg L.ow m)]*(zY g (off+m*2+1) r*z9m g off m L.ow L.rows)):=fun r=>zi4 g off m L.ow L.rows hm HL.out.lr r;have hs6:=hs5;rw [z2h g off m L.ow L.rows hm HL.out.lr] at hs6;clear hs5;go_wp2_with fail;refine (z8x g (off+m*2+1) (rg L.rows m) t w0 _ _ own hadd.out hrl.out).mono ?_;rintro en w4 ⟨rfl,hs7⟩;clear hs6;go_wp2_with fail;refine (zkx b (z32 L m t) L.own.length t w0 _ F ?_ hfw.out ht hnw.out).mono ?_
 ·refine z3K (L:=z32 L m t) (v0:=.slice (some ⟨g0,o0,none⟩) L.own.length c0) (v1:=.slice (some ⟨g1,o1,none⟩) L.own.length c1) (v2:=.slice (some ⟨g2,o2,none⟩) L.own.length c2) (g:=g) (off:=off) (cap:=cap) ?_;dsimp only [z32];rw [Hmr.out];refine Sat.perm (P:=pts b 0 [.slice (some ⟨g0,o0,none⟩) L.own.length c0,.slice (some ⟨g1,o1,none⟩) L.own.length c1,.slice (some ⟨g2,o2,none⟩) L.own.length c2,.slice (some ⟨g,off,none⟩) L.ow.length cap]*(z5 .i64 (.slice (some ⟨g0,o0,none⟩) L.own.length c0) L.own*(z5 .i64 (.slice (some ⟨g1,o1,none⟩) L.own.length c1) L.now*(z5 .i64 (.slice (some ⟨g2,o2,none⟩) L.own.length c2) (L.on.set t m)*(pts g (off+m*2) [.int .i64 (lg L.ow m)]*(zY g (off+m*2+1) (rg L.rows m++[(t:Int)])*(z9m g off m L.ow L.rows*F))))))) z3 (by ac_rfl)
 ·rintro en w5 ⟨rfl,now',h1,h2,h3⟩;go_wp2_with fail;go_ret2;exact ⟨rfl,now',h1,h2.lev (Nat.le_refl _),h3⟩
def za8 (L:Lk):Lk:={ L with now:=L.own }
theorem za5 {L:Lk} (h:Fit L):Fit (za8 L):=⟨h.n,rfl,h.lo,h.m,h.lr,h.ownr,h.ownr,h.onr,h.owr,h.row,h.rank⟩
theorem zfA (L:Lk):ziW (za8 L) 0:=⟨fun t _=>Int.le_refl _,fun t _ h=>absurd h (by omega),fun t ht=>⟨t,ht,.refl,rfl⟩⟩
theorem z9e (b g off cap:Nat) (L:Lk) (w0 w:World) (F:HP) (hs:Sat w0 w (lkG b g off cap L*F)) (hL:Fit L) (hpos:0<L.own.length) :
  Calls Tryz.prog 150 #[.pointer (some ⟨b,0,none⟩)] w fun en w'=>en=.returned (.tuple #[])∧∃ now',Fit { L with now:=now' }∧Lev { L with now:=now' }∧Sat w0 w' (lkG b g off cap { L with now:=now' }*F):=by
 obtain ⟨a0,c0,a1,c1,a2,c2,hp,hs⟩:=z3J hs hL;obtain ⟨⟨g0,o0,rfl⟩,⟨g1,o1,rfl⟩,⟨g2,o2,rfl⟩⟩:=hp hpos;have hn64:=hL.n;have HL:=hid hL;have Hln:=hid hL.ln;have h1:=hs.pull (Q:=z5 .i64 (.slice (some ⟨g1,o1,none⟩) L.own.length c1) L.now)
 rcases h1.slice_out with ⟨e,_⟩ | ⟨g',off',cap',sp,e,h2,h3,hx,hsp,h4⟩
 ·cases e
 ·simp only [Value.slice.injEq,Option.some.injEq,Addr.mk.injEq] at e;obtain ⟨⟨rfl,rfl,_⟩,he,rfl⟩:=e;clear he;have Hsp:=hid hsp;have H2:=hid h2;have H3:=hid h3;clear hs h1 hp hL hx hsp h2 h3
  go_enter Tryz.func150,Tryz.ntmps150
  go_wp2_with fail;refine z9 (w0:=w0) ?_;intro wx hsx;clear h4
  go_still_tail 8,(by kernel_rfl)
  change wpList _ _ _ _ _ wx.drew
  have hsrc:Hid (∀ j u,(L.own.map (Value.int .i64))[j]?=some u→wx.drew.cell? ((⟨g0,o0,none⟩:Addr).add j)=some u):=by
   have h5:RdN .i64 wx.drew (.slice (some ⟨g0,o0,none⟩) L.own.length c0) L.own:=rd;exact h5.news.2.2 _ rfl
  have hcs:(L.own.map (Value.int .i64)).length=L.own.length:=List.length_map ..;have hys:(L.now.map (Value.int .i64)++sp).length=L.own.length+sp.length:=by rw [List.length_append,List.length_map,Hln.out]
  have hmin:Hid ((L.own.map (Value.int .i64)).length=Nat.min L.own.length L.own.length*1):=by unfold Hid;rw [hcs];simp
  have hle:Hid ((L.own.map (Value.int .i64)).length≤(L.now.map (Value.int .i64)++sp).length):=by unfold Hid;rw [hcs,hys];omega
  clear hcs hys;have hown:Sat w0 wx.drew (pts g1 o1 (L.now.map (Value.int .i64)++sp)*(pts b 0 [.slice (some ⟨g0,o0,none⟩) L.own.length c0,.slice (some ⟨g1,o1,none⟩) L.own.length c1,.slice (some ⟨g2,o2,none⟩) L.own.length c2,.slice (some ⟨g,off,none⟩) L.ow.length cap]*(z5 .i64 (.slice (some ⟨g0,o0,none⟩) L.own.length c0) L.own*(z5 .i64 (.slice (some ⟨g2,o2,none⟩) L.own.length c2) L.on*(z2Q g off L.ow L.rows*F))))):=z3;refine z0A (w0:=w0) (o0:=o1) (xs:=[]) (ys:=L.now.map (Value.int .i64)++sp) rfl rfl z5h rfl rfl hmin.out hsrc.out (z1R _) hown rfl hle.out ?_;intro w2 hs3 hz;clear hsx hown;have hdrop:(L.now.map (Value.int .i64)++sp).drop (L.own.map (Value.int .i64)).length=sp:=by
   rw [List.length_map,← Hln.out,show L.now.length=(L.now.map (Value.int .i64)).length by simp,List.drop_left]
  rw [hdrop,List.nil_append] at hs3;have hs4:=Sat.slice_in (k:=1) (n:=L.own.length) hs3 (by have:=H2.out;rw [Hln.out] at this;exact this) H3.out (by simp) (by rw [Hsp.out,Hln.out]);have hs5:Sat w0 w2 (lkG b g off cap (za8 L)*F):=zaB (L:=za8 L) (v0:=.slice (some ⟨g0,o0,none⟩) L.own.length c0) (v1:=.slice (some ⟨g1,o1,none⟩) L.own.length c1) (v2:=.slice (some ⟨g2,o2,none⟩) L.own.length c2) (g:=g) (off:=off) (cap:=cap) (hs4.perm (by show _=pts b 0 _*(z5 .i64 _ L.own*(z5 .i64 (.slice (some ⟨g1,o1,none⟩) L.own.length c1) L.own*(z5 .i64 _ L.on*(z2Q g off L.ow L.rows*F))));unfold z5;ac_rfl));clear hs3 hs4;obtain ⟨a0,d0,a1,d1,a2,d2,hp,hs6⟩:=z3J hs5 (za5 HL.out);obtain ⟨⟨g0,o0,rfl⟩,⟨g1,o1,rfl⟩,⟨g2,o2,rfl⟩⟩:=hp hpos;have H5:=hid hs5;clear hs5 hp;have hlf:(za8 L).own.length=L.own.length:=rfl;go_wp2_with fail;clear hs6
  go_loopw [17] (fun i wr=>∃ (k:Nat) (now':List Int),k≤L.own.length∧i=.int .i64 k∧Fit { L with now:=now' }∧ziW { L with now:=now' } k∧Sat w0 wr (lkG b g off cap { L with now:=now' }*F)) (fun i _=>L.own.length-z7n i)
  case atStart=>exact ⟨0,L.own,Nat.zero_le _,rfl,za5 HL.out,zfA L,H5.out⟩
  case round =>
   obtain ⟨k,now',hk,rfl,hfit,hlev,hs7⟩:=hrel;have Hfit:=hid hfit;have Hlev:=hid hlev;clear hfit hlev H5
   by_cases hlt:k<L.own.length
   ·have i1:(k:Int)<(L.own.length:Int):=by omega
    go_wp2_with fail;refine (zd6 b g off cap { L with now:=now' } (k+1) k w0 _ F hs7 Hfit.out hlt (ze7 Hlev.out)).mono ?_;rintro en w3 ⟨rfl,now2,h5,h6,hs8⟩;have H5:=hid h5;have H6:=hid h6;clear h5 h6 hs7;go_wp2_with fail;go_roundw
    case rel=>exact ⟨k+1,now2,by omega,by go_num,H5.out,H6.out,hs8⟩
    case measure=>simp [z7n,intOf];omega
   ·have i1:¬ (k:Int)<(L.own.length:Int):=by omega
    have hkn:L.own.length≤k:=by omega
    go_wp2_with fail;go_returns;exact ⟨rfl,now',Hfit.out,Hlev.out.lev hkn,hs7⟩
end Go.Proofs.YtgiiidminlhbpaaGreatDoor
namespace Go.Lk
open Go.Proofs.YtgiiidminlhbpaaGreatDoor (z2g rg z7F)
def z3s (L:Lk) (m:Nat):Lk:={ L with ow:=L.ow.set m 255 }
theorem z8R {L:Lk} {m:Nat} (hm:m<L.ow.length) (k:Nat):z3O (z3s L m) k=if k=m then 255 else z3O L k:=z2g hm 255 k
theorem z8s {L:Lk} (hf:Fit L) {m:Nat} (hm:m<L.ow.length) (hr:rowAt L m=[]) {x:Nat} (hx:x<L.own.length) (hox:0≤z0N L x):(z0N L x).toNat≠m:=by
 intro e;have h:=((hf.row m hm).2 (x:Int)).2 ⟨by omega,by omega,by rw [show ((x:Int)).toNat=x by omega];omega⟩;rw [hr] at h
 cases h
theorem zcK {L:Lk} (hf:Fit L) {m:Nat} (hm:m<L.ow.length) (hr:rowAt L m=[]):Fit (z3s L m):=by
 have hlen:(z3s L m).ow.length=L.ow.length:=by unfold z3s;rw [List.length_set]
 have hnx:∀ x,x<L.own.length→0≤z0N L x→nx (z3s L m) x=nx L x:=fun x hx hox=>by
  unfold nx;show (z3O (z3s L m) (z0N L x).toNat).toNat=_;rw [z8R hm,if_neg (z8s hf hm hr hx hox)]
 refine ⟨hf.n,hf.ln,hf.lo,by rw [hlen];exact hf.m,by rw [hlen];exact hf.lr,hf.ownr,hf.nowr,fun x hx=>?_,fun k hk=>?_,fun k hk=>?_,?_⟩
 ·rcases hf.onr x hx with e | ⟨h1,h2,h3,h4⟩
  ·exact .inl e
  ·have hne:=z8s hf hm hr hx h1;refine .inr ⟨h1,by rw [hlen];exact h2,?_,?_⟩
   ·show 0≤z3O (z3s L m) (z0N L x).toNat;rw [z8R hm,if_neg hne];exact h3
   ·show z3O (z3s L m) (z0N L x).toNat<_;rw [z8R hm,if_neg hne];exact h4
 ·rw [hlen] at hk;rw [z8R hm]
  split
  ·exact .inl rfl
  ·exact hf.owr k hk
 ·rw [hlen] at hk;exact hf.row k hk
 ·obtain ⟨rk,hk⟩:=hf.rank;exact ⟨rk,fun x hx hox=>by rw [hnx x hx hox];exact hk x hx hox⟩
def z39 (L:Lk) (m w:Nat):Lk:={ L with ow:=L.ow.set m w,on:=L.on.set w (-1),rows:=L.rows.set m ((rg L.rows m).erase w) }
theorem zcL {L:Lk} (hf:Fit L) {m w:Nat} (hm:m<L.ow.length) (hw:(w:Int)∈rowAt L m):Fit (z39 L m w):=by
 have hmr:m<L.rows.length:=by rw [hf.lr];exact hm
 obtain ⟨_,hw2,hw3⟩:=((hf.row m hm).2 w).1 hw;rw [show ((w:Int)).toNat=w by omega] at hw3;have hwl:w<L.own.length:=by omega
 have hwo:w<L.on.length:=by rw [hf.lo];exact hwl
 have hlen:(z39 L m w).ow.length=L.ow.length:=by unfold z39;rw [List.length_set]
 have hon:∀ x,z0N (z39 L m w) x=if x=w then -1 else z0N L x:=fun x=>z2g hwo (-1) x;have how:∀ k,z3O (z39 L m w) k=if k=m then (w:Int) else z3O L k:=fun k=>z2g hm (w:Int) k;refine ⟨hf.n,hf.ln,by unfold z39;rw [List.length_set];exact hf.lo,by rw [hlen];exact hf.m,by unfold z39;rw [List.length_set,List.length_set];exact hf.lr,hf.ownr,hf.nowr,fun x hx=>?_,fun k hk=>?_,fun k hk=>?_,?_⟩
 ·rw [hon]
  by_cases e:x=w
  ·rw [if_pos e];exact .inl rfl
  ·rw [if_neg e]
   rcases hf.onr x hx with h | ⟨h1,h2,h3,h4⟩
   ·exact .inl h
   ·refine .inr ⟨h1,by rw [hlen];exact h2,?_,?_⟩
    ·rw [how];split
     ·omega
     ·exact h3
    ·rw [how];split
     ·show (w:Int)<(L.own.length:Int);omega
     ·exact h4
 ·rw [hlen] at hk;rw [how]
  split
  ·exact .inr ⟨by omega,by show (w:Int)<(L.own.length:Int);omega⟩
  ·exact hf.owr k hk
 ·rw [hlen] at hk;have hr:=hf.row k hk;have hrow:rowAt (z39 L m w) k=if k=m then (rg L.rows m).erase w else rowAt L k:=z7F hmr _ k;rw [hrow]
  by_cases e:k=m
  ·subst e;rw [if_pos rfl];refine ⟨hr.1.erase _,fun z=>?_⟩;have hnd:(rg L.rows k).Nodup:=hr.1;have h1:z∈(rg L.rows k).erase (w:Int)↔z≠w∧z∈rg L.rows k:=List.Nodup.mem_erase_iff hnd;have h2:z∈rg L.rows k↔_:=hr.2 z;rw [h1,h2,hon];show _↔0≤z∧z<(L.own.length:Int)∧_
   by_cases ez:z.toNat=w
   ·rw [if_pos ez]
    constructor
    ·rintro ⟨a,b,c,d⟩;exact absurd (show z=(w:Int) by omega) a
    ·rintro ⟨a,b,c⟩;omega
   ·rw [if_neg ez]
    constructor
    ·rintro ⟨a,b⟩;exact b
    ·intro b;exact ⟨by rintro rfl;exact ez (by omega),b⟩
  ·rw [if_neg e];refine ⟨hr.1,fun z=>?_⟩;rw [hr.2 z,hon];show _↔0≤z∧z<(L.own.length:Int)∧_
   by_cases ez:z.toNat=w
   ·rw [if_pos ez,ez,hw3]
    constructor
    ·rintro ⟨a,b,c⟩;omega
    ·rintro ⟨a,b,c⟩;omega
   ·rw [if_neg ez]
 ·obtain ⟨rk,hk⟩:=hf.rank;refine ⟨fun x=>if x=w then 0 else rk x+1,fun x hx hox=>?_⟩;rw [hon] at hox
  by_cases e:x=w
  ·rw [if_pos e] at hox;omega
  ·rw [if_neg e] at hox;have h1:=hk x hx hox;have h2:nx (z39 L m w) x=if (z0N L x).toNat=m then w else nx L x:=by
    unfold nx;rw [hon,if_neg e,how]
    split<;>rfl
   rw [h2];dsimp only;rw [if_neg e]
   split
   ·rw [if_pos rfl];omega
   ·split<;>omega
end Go.Lk
namespace Go.Proofs.YtgiiidminlhbpaaGreatDoor
open Go.RowKit Go.Sx Go.Lk
theorem z9i (b:Nat) (L:Lk) (t m:Int) (w0 w:World) (F:HP) (hs:Sat w0 w (lkP b L*F)) (hL:Fit L) (ht:¬ (0≤t∧t<L.own.length)) :
  Calls Tryz.prog 121 #[.pointer (some ⟨b,0,none⟩),.int .i64 t,.int .i64 m] w (zp w0 (.tuple #[.int .i64 255,.int .i64 1]) (lkP b L*F)):=by
 go_enter Tryz.func121,Tryz.ntmps121
 go_wp2_with fail;refine (z1p b L t false (decide_eq_false ht) w0 _ F hs hL).mono ?_;rintro en w1 ⟨rfl,hs1⟩;go_wp2_with fail;go_ret2;exact ⟨rfl,hs1⟩
theorem z9h (b:Nat) (L:Lk) (t m:Int) (w0 w:World) (F:HP) (hs:Sat w0 w (lkP b L*F)) (hL:Fit L) (ht:0≤t∧t<L.own.length) (hm:¬ (0≤m∧m<L.ow.length)) :
  Calls Tryz.prog 121 #[.pointer (some ⟨b,0,none⟩),.int .i64 t,.int .i64 m] w (zp w0 (.tuple #[.int .i64 255,.int .i64 15]) (lkP b L*F)):=by
 go_enter Tryz.func121,Tryz.ntmps121
 go_wp2_with fail;refine (z1p b L t true (decide_eq_true ht) w0 _ F hs hL).mono ?_;rintro en w1 ⟨rfl,hs1⟩;go_wp2_with fail;refine (z2O b L m false (decide_eq_false hm) w0 _ F hs1 hL).mono ?_;rintro en w2 ⟨rfl,hs2⟩;go_wp2_with fail;go_ret2;exact ⟨rfl,hs2⟩
theorem z82 (b:Nat) (L:Lk) (t:Int) (m:Nat) (w0 w:World) (F:HP) (hs:Sat w0 w (lkP b L*F)) (hL:Fit L) (ht:0≤t∧t<L.own.length) (hm:m<L.ow.length) (hown:lg L.ow m≠t) :
  Calls Tryz.prog 121 #[.pointer (some ⟨b,0,none⟩),.int .i64 t,.int .i64 m] w (zp w0 (.tuple #[.int .i64 255,.int .i64 10]) (lkP b L*F)):=by
 have j3:(m:Int)<(L.ow.length:Int):=by omega
 have j4:decide (m<L.ow.length)=true:=by simp;omega
 haveI:Lt m L.ow.length:=⟨hm⟩;haveI:z12 L.ow L.rows:=⟨hL.lr⟩;have hm32:=hL.m;have e2:(lg L.ow m != t)=true:=by simp [hown]
 clear hown
 go_enter Tryz.func121,Tryz.ntmps121
 go_wp2_with fail;refine (z1p b L t true (decide_eq_true ht) w0 _ F hs hL).mono ?_;rintro en w1 ⟨rfl,hs1⟩;clear hs;go_wp2_with fail;refine (z2O b L m true (decide_eq_true ⟨by omega,j3⟩) w0 _ F hs1 hL).mono ?_;rintro en w2 ⟨rfl,hs2⟩;clear hs1;have H2:=hid hs2;obtain ⟨a0,c0,a1,c1,a2,c2,g,off,cap,hp,hs3⟩:=z0Q hs2 hL;clear hp hs2;go_wp2_with fail;go_ret2;exact ⟨rfl,H2.out⟩
theorem zde (g o i:Nat) (xs:List Int) (rs:List (List Int)) (hi:i<xs.length) (hl:rs.length=xs.length) (x:Int) (r:List Int) :
  z2Q g o (xs.set i x) (rs.set i r)=pts g (o+i*2) [.int .i64 x]*(zY g (o+i*2+1) r*z9m g o i xs rs):=by
 rw [z2h g o i (xs.set i x) (rs.set i r) (by rw [List.length_set];exact hi) (by rw [List.length_set,List.length_set];exact hl),z7F (by omega),if_pos rfl,z2g hi,if_pos rfl,z6u]
theorem zi3 (g o i:Nat) (xs:List Int) (rs:List (List Int)) (hi:i<xs.length) (hl:rs.length=xs.length) (x:Int) :
  z2Q g o (xs.set i x) rs=pts g (o+i*2) [.int .i64 x]*(zY g (o+i*2+1) (rg rs i)*z9m g o i xs rs):=by
 have:=zde g o i xs rs hi hl x (rg rs i)
 rwa [show rs.set i (rg rs i)=rs from z9D rs i []] at this
theorem zgt {L:Lk} (hL:Fit L) {m:Nat} (hm:m<L.ow.length):z2F (rg L.rows m) :=
 ⟨(hL.row m hm).1,fun z hz=>by have:=((hL.row m hm).2 z).1 hz;have:=hL.n;omega⟩
theorem zdo (b o:Nat) (l:List Int) (lv:Value) (levels:List Int) (x:Int) (y:Bool) (hx:zD levels l=x) (hy:decide (l≠[])=y) (w0 w:World) (F:HP) (hs:Sat w0 w (zY b o l*F)) (hlv:RdN .i64 w lv levels) (hl:z2F l) :
  Calls Tryz.prog 110 #[.pointer (some ⟨b,o,none⟩),lv] w (z9P (.tuple #[.int .i64 x,.bool y]) w):=by
 subst hx hy;exact z3e b o l lv levels w0 w F hs hlv hl
theorem z9f (b:Nat) (L:Lk) (t m:Nat) (w0 w:World) (F:HP) (hs:Sat w0 w (lkP b L*F)) (hL:Fit L) (ht:t<L.own.length) (hm:m<L.ow.length) (hown:lg L.ow m=t) (hrow:rg L.rows m=[]) :
  Calls Tryz.prog 121 #[.pointer (some ⟨b,0,none⟩),.int .i64 t,.int .i64 m] w fun en w'=>en=.returned (.tuple #[.int .i64 255,.int .i64 0])∧∃ now',Fit { z3s L m with now:=now' }∧Lev { z3s L m with now:=now' }∧Sat w0 w' (lkP b { z3s L m with now:=now' }*F):=by
 have j1:(t:Int)<(L.own.length:Int):=by omega
 have j3:(m:Int)<(L.ow.length:Int):=by omega
 have j4:decide (m<L.ow.length)=true:=by simp;omega
 have hm32:=hL.m;have hn64:=hL.n;have e2:(lg L.ow m != (t:Int))=false:=by simp [hown]
 have Hff:=hid (zcK hL hm hrow);have Hok:=hid (zgt hL hm);have Hrow:=hid hrow;have HL:=hid hL;clear hown hrow hL
 go_enter Tryz.func121,Tryz.ntmps121
 go_wp2_with fail;refine (z1p b L t true (decide_eq_true ⟨by omega,j1⟩) w0 _ F hs HL.out).mono ?_;rintro en w1 ⟨rfl,hs1⟩;clear hs;go_wp2_with fail;refine (z2O b L m true (decide_eq_true ⟨by omega,j3⟩) w0 _ F hs1 HL.out).mono ?_;rintro en w2 ⟨rfl,hs2⟩;clear hs1;obtain ⟨g,off,cap,hs3⟩:=zfE hs2;obtain ⟨a0,c0,a1,c1,a2,c2,hp,hs4⟩:=z3J hs3 HL.out;obtain ⟨⟨g0,o0,rfl⟩,⟨g1,o1,rfl⟩,⟨g2,o2,rfl⟩⟩:=hp (by omega);have Hmr:=hid (fun x=>zi3 g off m L.ow L.rows hm HL.out.lr x);clear hs2 hs3 hp;rw [z2h g off m L.ow L.rows hm HL.out.lr] at hs4;go_wp2_with fail;refine z9 (w0:=w0) ?_;intro w5 hs5;clear hs4;go_quiet ((go_at_call 110;exact z2a (zdo g (off+m*2+1) (rg L.rows m) _ L.now 0 false (by rw [Hrow.out];rfl) (decide_eq_false (by simp [Hrow.out])) w0 _ _ own rd Hok.out)));go_wp2_with fail;refine (z9e b g off cap (z3s L m) w0 _ F ?_ Hff.out (by show 0<L.own.length;omega)).mono ?_
 ·refine zaB (L:=z3s L m) (v0:=.slice (some ⟨g0,o0,none⟩) L.own.length c0) (v1:=.slice (some ⟨g1,o1,none⟩) L.own.length c1) (v2:=.slice (some ⟨g2,o2,none⟩) L.own.length c2) ?_;dsimp only [z3s];rw [List.length_set,Hmr.out];refine Sat.perm (P:=pts b 0 [.slice (some ⟨g0,o0,none⟩) L.own.length c0,.slice (some ⟨g1,o1,none⟩) L.own.length c1,.slice (some ⟨g2,o2,none⟩) L.own.length c2,.slice (some ⟨g,off,none⟩) L.ow.length cap]*(z5 .i64 (.slice (some ⟨g0,o0,none⟩) L.own.length c0) L.own*(z5 .i64 (.slice (some ⟨g1,o1,none⟩) L.own.length c1) L.now*(z5 .i64 (.slice (some ⟨g2,o2,none⟩) L.own.length c2) L.on*(pts g (off+m*2) [.int .i64 255]*(zY g (off+m*2+1) (rg L.rows m)*(z9m g off m L.ow L.rows*F))))))) z3 (by ac_rfl)
 ·rintro en w6 ⟨rfl,now',h1,h2,h3⟩;clear hs5;have H1:=hid h1;have H2:=hid h2;have H3:=hid h3;obtain ⟨a0,c0,a1,c1,a2,c2,hp,hs7⟩:=z3J h3 h1;clear h1 h2 h3 hp;dsimp only [z3s] at hs7;rw [Hmr.out] at hs7;go_wp2_with fail;go_ret2;exact ⟨rfl,now',H1.out,H2.out,zd5 H3.out⟩
theorem z9g (b:Nat) (L:Lk) (t m:Nat) (w0 w:World) (F:HP) (hs:Sat w0 w (lkP b L*F)) (hL:Fit L) (ht:t<L.own.length) (hm:m<L.ow.length) (hown:lg L.ow m=t) (hrow:rg L.rows m≠[]) :
  Calls Tryz.prog 121 #[.pointer (some ⟨b,0,none⟩),.int .i64 t,.int .i64 m] w fun en w'=>∃ x:Nat,zD L.now (rg L.rows m)=x∧en=.returned (.tuple #[.int .i64 x,.int .i64 0])∧∃ now',Fit { z39 L m x with now:=now' }∧Lev { z39 L m x with now:=now' }∧Sat w0 w' (lkP b { z39 L m x with now:=now' }*F):=by
 have j1:(t:Int)<(L.own.length:Int):=by omega
 have j3:(m:Int)<(L.ow.length:Int):=by omega
 have j4:decide (m<L.ow.length)=true:=by simp;omega
 have hm32:=hL.m;have hn64:=hL.n;have e2:(lg L.ow m != (t:Int))=false:=by simp [hown]
 have hbin:=z1n L.now (rg L.rows m) hrow;have hbr:=((hL.row m hm).2 _).1 hbin;obtain ⟨x,hx⟩:=Int.eq_ofNat_of_zero_le hbr.1;rw [hx] at hbin hbr;have hxl:x<L.own.length:=by omega
 have j5:(x:Int)<(L.own.length:Int):=by omega
 have j6:decide (x<L.own.length)=true:=by simp;omega
 haveI:Lt x L.on.length:=⟨by rw [hL.lo];exact hxl⟩;have Hx:=hid hx;have Hff:=hid (zcL hL hm hbin);have Hok:=hid (zgt hL hm);have Hrow:=hid hrow;have Hbin:Hid ((x:Int)∈rg L.rows m):=hbin;have HL:=hid hL;clear hown hrow hL hbin hbr hx
 go_enter Tryz.func121,Tryz.ntmps121
 go_wp2_with fail;refine (z1p b L t true (decide_eq_true ⟨by omega,j1⟩) w0 _ F hs HL.out).mono ?_;rintro en w1 ⟨rfl,hs1⟩;clear hs;go_wp2_with fail;refine (z2O b L m true (decide_eq_true ⟨by omega,j3⟩) w0 _ F hs1 HL.out).mono ?_;rintro en w2 ⟨rfl,hs2⟩;clear hs1;obtain ⟨g,off,cap,hs3⟩:=zfE hs2;obtain ⟨a0,c0,a1,c1,a2,c2,hp,hs4⟩:=z3J hs3 HL.out;obtain ⟨⟨g0,o0,rfl⟩,⟨g1,o1,rfl⟩,⟨g2,o2,rfl⟩⟩:=hp (by omega);have Hmr:=hid (fun x r=>zde g off m L.ow L.rows hm HL.out.lr x r);clear hs2 hs3 hp;rw [z2h g off m L.ow L.rows hm HL.out.lr] at hs4;go_wp2_with fail;refine z9 (w0:=w0) ?_;intro w5 hs5;clear hs4;go_quiet ((go_at_call 110;exact z2a (zdo g (off+m*2+1) (rg L.rows m) _ L.now x true Hx.out (decide_eq_true Hrow.out) w0 _ _ own rd Hok.out)));go_wp2_with fail;refine (z2l g (off+m*2+1) (rg L.rows m) x w0 _ _ own Hok.out).mono ?_;rintro en w6 ⟨rfl,hs6⟩;clear hs5;go_wp2_with fail;refine (z9e b g off cap (z39 L m x) w0 _ F ?_ Hff.out (by show 0<L.own.length;omega)).mono ?_
 ·refine zaB (L:=z39 L m x) (v0:=.slice (some ⟨g0,o0,none⟩) L.own.length c0) (v1:=.slice (some ⟨g1,o1,none⟩) L.own.length c1) (v2:=.slice (some ⟨g2,o2,none⟩) L.own.length c2) ?_;dsimp only [z39];rw [List.length_set,Hmr.out];refine Sat.perm (P:=pts b 0 [.slice (some ⟨g0,o0,none⟩) L.own.length c0,.slice (some ⟨g1,o1,none⟩) L.own.length c1,.slice (some ⟨g2,o2,none⟩) L.own.length c2,.slice (some ⟨g,off,none⟩) L.ow.length cap]*(z5 .i64 (.slice (some ⟨g0,o0,none⟩) L.own.length c0) L.own*(z5 .i64 (.slice (some ⟨g1,o1,none⟩) L.own.length c1) L.now*(z5 .i64 (.slice (some ⟨g2,o2,none⟩) L.own.length c2) (L.on.set x (-1))*(pts g (off+m*2) [.int .i64 x]*(zY g (off+m*2+1) ((rg L.rows m).erase x)*(z9m g off m L.ow L.rows*F))))))) z3 (by ac_rfl)
 ·rintro en w7 ⟨rfl,now',h1,h2,h3⟩;clear hs6;have H1:=hid h1;have H2:=hid h2;have H3:=hid h3;obtain ⟨a0,c0,a1,c1,a2,c2,hp,hs7⟩:=z3J h3 h1;clear h1 h2 h3 hp;dsimp only [z39] at hs7;rw [Hmr.out] at hs7;go_wp2_with fail;go_ret2;exact ⟨x,Hx.out,rfl,now',H1.out,H2.out,zd5 H3.out⟩
end Go.Proofs.YtgiiidminlhbpaaGreatDoor
namespace Go.Sx
open Go.RowKit
inductive z58 where
 | done:z58
 | read (i:Nat) (p:z58):z58
 | run (i:Nat) (p:z58):z58
 | alt (i:Nat) (p:z58) (j:Nat) (q:z58):z58
 | alt3 (i:Nat) (p:z58) (j:Nat) (q:z58) (k:Nat) (r:z58):z58
def z58.size:z58→Nat
 | .done=>0
 | .read _ p=>p.size+1
 | .run _ p=>p.size+1
 | .alt _ p _ _=>p.size+1
 | .alt3 _ p _ _ _ _=>p.size+1
def z08 (P:Program) (ops:Array Oper) (Q:Exit→Act→World→Prop):(World→Prop)→z58→Act→World→Prop
 | _,.done,a,w=>Q .normal a w
 | S,.read i p,a,w=>∃ o v,ops[i]?=some o∧YieldsIf P ops S o v a∧z08 P ops Q S p (a.put o.dst v) w
 | S,.run i p,a,w=>wpOp P ops Q i (fun a' w'=>∃ S':World→Prop,(∀ w,S' w→S w)∧S' w'∧z08 P ops Q S' p a' w') a w
 | S,.alt i p j q,a,w=>wpOp P ops Q i (fun a' w'=>∃ S':World→Prop,(∀ w,S' w→S w)∧S' w'∧z08 P ops Q S' p a' w') a w ∧
   wpOp P ops Q j (fun a' w'=>∃ S':World→Prop,(∀ w,S' w→S w)∧S' w'∧z08 P ops Q S' q a' w') a w
 | S,.alt3 i p j q k r,a,w=>wpOp P ops Q i (fun a' w'=>∃ S':World→Prop,(∀ w,S' w→S w)∧S' w'∧z08 P ops Q S' p a' w') a w ∧
   wpOp P ops Q j (fun a' w'=>∃ S':World→Prop,(∀ w,S' w→S w)∧S' w'∧z08 P ops Q S' q a' w') a w ∧
   wpOp P ops Q k (fun a' w'=>∃ S':World→Prop,(∀ w,S' w→S w)∧S' w'∧z08 P ops Q S' r a' w') a w
def z3i (md:Region.Mode) (ops:Array Oper):z58→Array Bool→Bool
 | .done,listed=>(Region.ready md ops listed).isEmpty
 | .read i p,listed=>(Region.ready md ops listed).contains i && Region.free md ops listed i && z3i md ops p (listed.setIfInBounds i true)
 | .run i p,listed=>(Region.ready md ops listed==[i]) && z3i md ops p (listed.setIfInBounds i true)
 | .alt i p j q,listed=>(Region.ready md ops listed==[i,j]) && (p.size==q.size) && z3i md ops p (listed.setIfInBounds i true) && z3i md ops q (listed.setIfInBounds j true)
 | .alt3 i p j q k r,listed=>(Region.ready md ops listed==[i,j,k]) && (p.size==q.size) && (p.size==r.size) && z3i md ops p (listed.setIfInBounds i true) && z3i md ops q (listed.setIfInBounds j true) && z3i md ops r (listed.setIfInBounds k true)
def z54 (ops:Array Oper) (plan:z58):Bool :=
 Region.noSelect ops && (plan.size==ops.size) && z3i .any ops plan (Array.replicate ops.size false)
section
variable {P:Program} {ops:Array Oper} {Q:Exit→Act→World→Prop} {md:Region.Mode} {S:World→Prop}
theorem z0i (hs:Region.noSelect ops=true) (hQ:∀ (t:Array Value) c (a:Act) w,Q (.panic c) { a with tmps:=t } w→Q (.panic c) a w) :
  ∀ (plan:z58) (S:World→Prop) (listed:Array Bool) (a:Act) (w:World),z3i md ops plan listed=true→S w→z08 P ops Q S plan a w→wpAnyH P md ops Q S plan.size listed a w
 | .done,_,_,_,_,hB,_,h=>wpAnyH_done (by simpa [z3i] using hB) h _
 | .read i p,S,listed,a,w,hB,hS,h=>by
  simp only [z3i,Bool.and_eq_true] at hB;obtain ⟨⟨hr,hf⟩,hB'⟩:=hB;obtain ⟨o,v,ho,hy,h'⟩:=h;exact wpAnyH_take ho hs hf hr (fun c a w hq=>by
   cases hd:o.dst with
   | none=>rw [hd] at hq;exact hq
   | some d=>rw [hd] at hq;exact hQ _ c a w hq) hy hS (z0i hs hQ p S _ _ _ hB' hS h')
 | .run i p,S,listed,a,w,hB,hS,h=>by
  simp only [z3i,Bool.and_eq_true,beq_iff_eq] at hB;obtain ⟨hr,hB'⟩:=hB;refine wpAnyH_all hr (by simp) fun j hj=>?_;have:j=i:=by simpa using hj
  subst this;exact wpOp_mono (fun a' w' ⟨S',hm,hS',h'⟩=>⟨hm _ hS',z0X hm _ _ _ _ (z0i hs hQ p S' _ _ _ hB' hS' h')⟩) h
 | .alt i p j q,S,listed,a,w,hB,hS,h=>by
  simp only [z3i,Bool.and_eq_true,beq_iff_eq] at hB;obtain ⟨⟨⟨hr,hz⟩,hB1⟩,hB2⟩:=hB;refine wpAnyH_all hr (by simp) fun x hx=>?_
  rcases (by simpa using hx:x=i∨x=j) with rfl | rfl
  ·exact wpOp_mono (fun a' w' ⟨S',hm,hS',h'⟩=>⟨hm _ hS',z0X hm _ _ _ _ (z0i hs hQ p S' _ _ _ hB1 hS' h')⟩) h.1
  ·rw [hz];exact wpOp_mono (fun a' w' ⟨S',hm,hS',h'⟩=>⟨hm _ hS',z0X hm _ _ _ _ (z0i hs hQ q S' _ _ _ hB2 hS' h')⟩) h.2
 | .alt3 i p j q k r,S,listed,a,w,hB,hS,h=>by
  simp only [z3i,Bool.and_eq_true,beq_iff_eq] at hB;obtain ⟨⟨⟨⟨⟨hr,hz⟩,hz2⟩,hB1⟩,hB2⟩,hB3⟩:=hB;refine wpAnyH_all hr (by simp) fun x hx=>?_
  rcases (by simpa using hx:x=i∨x=j∨x=k) with rfl | rfl | rfl
  ·exact wpOp_mono (fun a' w' ⟨S',hm,hS',h'⟩=>⟨hm _ hS',z0X hm _ _ _ _ (z0i hs hQ p S' _ _ _ hB1 hS' h')⟩) h.1
  ·rw [hz];exact wpOp_mono (fun a' w' ⟨S',hm,hS',h'⟩=>⟨hm _ hS',z0X hm _ _ _ _ (z0i hs hQ q S' _ _ _ hB2 hS' h')⟩) h.2.1
  ·rw [hz2];exact wpOp_mono (fun a' w' ⟨S',hm,hS',h'⟩=>⟨hm _ hS',z0X hm _ _ _ _ (z0i hs hQ r S' _ _ _ hB3 hS' h')⟩) h.2.2
theorem z4l {id:Nat} {a:Act} {w:World} (S:World→Prop) (plan:z58) (hm:P.follows .mixedOrders=true) (hB:z54 ops plan=true)
  (hQ:∀ (t:Array Value) c (a:Act) w,Q (.panic c) { a with tmps:=t } w→Q (.panic c) a w) (hS:S w.drew) (h:z08 P ops Q S plan a w.drew):(Code.region id ops true).wp P Q a w:=by
 simp only [z54,Bool.and_eq_true,beq_iff_eq] at hB;obtain ⟨⟨h1,h2⟩,h3⟩:=hB;refine wp_region_held (S:=S) hm ?_;rw [← h2];rw [← h2] at h3;exact z0i h1 hQ plan S _ a w.drew h3 hS h
theorem z16 {a:Act} {w:World} (h:Q .normal a w):z08 P ops Q S .done a w:=h
section
variable {l:List Oper} {i j k:Nat} {p q r:z58} {a:Act} {w:World}
theorem z04 (h:∀ K:Act→Prop,(∀ a,z08 P l.toArray Q S p a w→K a)→match l[i]? with
  | none=>False
  | some o=>if Region.wanted o (yielded l.toArray a.tmps)=true then ∃ v,(∀ w,S w→(execOp a.eval o).run P w=.ok (.value v) w)∧K (a.put o.dst v) else K (a.put o.dst undef)) :
  z08 P l.toArray Q S (.read i p) a w:=by
 have h:=h _ fun _ h=>h
 cases ho:l[i]? with
 | none=>rw [ho] at h;exact h.elim
 | some o =>
  rw [ho] at h;have h:if Region.wanted o (yielded l.toArray a.tmps)=true then _ else _:=h
  by_cases hw:Region.wanted o (yielded l.toArray a.tmps)=true
  ·rw [if_pos hw] at h;obtain ⟨v,h1,h2⟩:=h;exact ⟨o,v,by simpa using ho,.inl ⟨hw,h1⟩,h2⟩
  ·rw [if_neg hw] at h;exact ⟨o,undef,by simpa using ho,.inr ⟨by simpa using hw,rfl⟩,h⟩
theorem z1t (h:∀ K:Act→World→Prop,(∀ a w,(∃ S':World→Prop,(∀ w,S' w→S w)∧S' w∧z08 P l.toArray Q S' p a w)→K a w)→match l[i]? with
  | none=>False
  | some o=>if Region.wanted o (yielded l.toArray a.tmps)=true then o.wp P a w K Q else K (a.put o.dst undef) w) :
  z08 P l.toArray Q S (.run i p) a w:=by
 have h:=h _ fun _ _ h=>h;show wpOp P l.toArray Q i _ a w;unfold wpOp;have e:l.toArray[i]?=l[i]?:=by simp
 rw [e]
 cases ho:l[i]? with
 | none=>rw [ho] at h;exact h.elim
 | some o =>
  rw [ho] at h;have h:if Region.wanted o (yielded l.toArray a.tmps)=true then _ else _:=h;show if Region.wanted o (yielded l.toArray a.tmps)=true then _ else _
  by_cases hw:Region.wanted o (yielded l.toArray a.tmps)=true
  ·rw [if_pos hw] at h ⊢;exact .inl h
  ·rw [if_neg hw] at h ⊢;exact h
theorem z4a (h1:z08 P l.toArray Q S (.run i p) a w) (h2:z08 P l.toArray Q S (.run j q) a w):z08 P l.toArray Q S (.alt i p j q) a w:=⟨h1,h2⟩
theorem zpP {o:Oper} (ho:l[i]?=some o) (hw:Region.wanted o (yielded l.toArray a.tmps)=true) (h:∃ v,(∀ w,S w→(execOp a.eval o).run P w=.ok (.value v) w)∧z08 P l.toArray Q S p (a.put o.dst v) w):z08 P l.toArray Q S (.read i p) a w :=
 z04 fun K hK=>by rw [ho];dsimp only;rw [if_pos hw];obtain ⟨v,hv,hk⟩:=h;exact ⟨v,hv,hK _ hk⟩
theorem zpO {o:Oper} (ho:l[i]?=some o) (hw:Region.wanted o (yielded l.toArray a.tmps)=false) (hk:z08 P l.toArray Q S p (a.put o.dst undef) w):z08 P l.toArray Q S (.read i p) a w :=
 z04 fun K hK=>by rw [ho];dsimp only;rw [if_neg (ne_true_of_eq_false hw)];exact hK _ hk
theorem ztb {o:Oper} {v:Value} {a':Act} (h:z08 P l.toArray Q S p a' w) (ho:l[i]?=some o:=by rfl) (hw:Region.wanted o (yielded l.toArray a.tmps)=true:=by rfl)
  (hx:∀ w,S w→(execOp a.eval o).run P w=.ok (.value v) w:=by intro w hSw; (try dsimp only at hSw);go_simp;try with_reducible rfl) (ha:a.put o.dst v=a':=by simp only [Act.put,zqA,zqP,zqQ];rfl):z08 P l.toArray Q S (.read i p) a w :=
 zpP ho hw ⟨v,hx,by rw [ha];exact h⟩
theorem zta {o:Oper} {a':Act} (h:z08 P l.toArray Q S p a' w) (ho:l[i]?=some o:=by rfl) (hw:Region.wanted o (yielded l.toArray a.tmps)=false:=by rfl) (ha:a.put o.dst undef=a':=by simp only [Act.put,zqA,zqP,zqQ];rfl):z08 P l.toArray Q S (.read i p) a w :=
 zpO ho hw (by rw [ha];exact h)
end
end
end Go.Sx
namespace Go.Proofs.YtgiiidminlhbpaaGreatDoor
open Go.RowKit Go.Sx Go.Lk
instance (g i:Nat) (xs:List Int) (rs:List (List Int)) [h:Lt i xs.length] [e:z12 xs rs]:zC (z2Q g 0 xs rs) g (i*2) (.int .i64 (lg xs i)) :=
  ⟨fun {w0 w F} hs => by have := zC.cell (P := z2Q g 0 xs rs) (b := g) (o := 0+i*2) (v := .int .i64 (lg xs i)) hs; rwa [Nat.zero_add] at this,
   fun {w0 w F} hs => by have := zC.free (P := z2Q g 0 xs rs) (b := g) (o := 0+i*2) (v := .int .i64 (lg xs i)) hs; rwa [Nat.zero_add] at this⟩
instance (g i:Nat) (xs:List Int) (rs:List (List Int)) (x:Int) [h:Lt i xs.length] [e:z12 xs rs]:Upd (z2Q g 0 xs rs) g (i*2) (.int .i64 x) (z2Q g 0 (xs.set i x) rs) :=
 ⟨fun {w0 w F} hs=>by have:=Upd.upd (P:=z2Q g 0 xs rs) (b:=g) (o:=0+i*2) (v:=.int .i64 x) (P':=z2Q g 0 (xs.set i x) rs) hs;rwa [Nat.zero_add] at this⟩
theorem zmo (x y:Value):∀ n:Nat,(madeCells #[x,y] (n*2)).toList=(List.replicate n [x,y]).flatten
 | 0=>by simp [madeCells]
 | n+1=>by
  have ih:=zmo x y n;unfold madeCells at ih ⊢;simp only [Array.toList_map,Array.toList_range] at ih ⊢;rw [show (n+1)*2=n*2+1+1 by omega,List.range_succ_eq_map,List.range_succ_eq_map,List.replicate_succ,List.flatten_cons,← ih];simp only [List.map_cons,List.map_map,List.cons_append,List.nil_append];have e:(fun i=>#[x,y][i%(#[x,y]:Array Value).size]!) ∘ Nat.succ ∘ Nat.succ=fun i=>#[x,y][i%(#[x,y]:Array Value).size]!:=by
   funext i
   show #[x,y][(i+2)%2]! = #[x,y][i%2]!;rw [Nat.add_mod_right]
  rw [e]
  rfl
theorem z6v {w0 w:World} (g:Nat):∀ (n o:Nat) (F:HP),Sat w0 w (pts g o ((List.replicate n [Value.int .i64 0,Value.slice none 0 0]).flatten)*F)→Sat w0 w (z2Q g o (List.replicate n 0) (List.replicate n [])*F)
 | 0,o,F,h=>by
  rw [List.replicate_zero,List.flatten_nil,z3R] at h;exact h
 | n+1,o,F,h=>by
  rw [List.replicate_succ,List.flatten_cons,zd] at h;have h1:=z6v g n (o+2) (pts g o [Value.int .i64 0,Value.slice none 0 0]*F) (h.perm (by simp only [List.length_cons,List.length_nil];ac_rfl));rw [z2A] at h1;have h2:Sat w0 w (pts g (o+1) [Value.slice none 0 0]*(z2Q g (o+2) (List.replicate n 0) (List.replicate n [])*(pts g o [Value.int .i64 0]*F))):=h1.perm (by ac_rfl);have h3:Sat w0 w (zY g (o+1) []*(z2Q g (o+2) (List.replicate n 0) (List.replicate n [])*(pts g o [Value.int .i64 0]*F))):=z4t ((h2.slice_nil 1).perm (by
   show z5 .i64 (.slice none 0 0) []*(pts g (o+1) [Value.slice none 0 0]*_)=_;ac_rfl))
  show Sat w0 w (pts g o [.int .i64 0]*(zY g (o+1) []*z2Q g (o+2) (List.replicate n 0) (List.replicate n []))*F);exact h3.perm (by ac_rfl)
def z5x (l:List Int) (M:Nat):Lk:=⟨l,l,List.replicate l.length (-1),List.replicate M 255,List.replicate M []⟩
def ziX (l:List Int):Prop:=∀ x∈l,0≤x∧x<32
theorem zfY:z1m Tryz.prog 156 162 2 32 (.agg #[.int .i64 0,.slice none 0 0]):=⟨by kernel_rfl,by kernel_rfl,rfl⟩
theorem zkI (M:Nat) (hM:M≤32) (w:World):(Instr.makeSlice 156 (.int .i64 M) (.int .i64 M)).run Tryz.prog w=.ok (.slice (some ⟨w.heap.size,0,none⟩) M M) (w.alloc (.cells ((List.replicate M [Value.int .i64 0,Value.slice none 0 0]).flatten).toArray 162)):=by
 obtain ⟨i,hi,hz,h2,h3⟩:=info_parts zfY.hi;have hc:(Value.agg #[.int .i64 0,.slice none 0 0]).cells=#[Value.int .i64 0,Value.slice none 0 0]:=by rfl
 have hr:=run_make (P:=Tryz.prog) w 156 162 i _ zfY.ht hi hz .i64 .i64 M M (by omega) (Int.le_refl _) (by
  rw [h3];omega) (by omega)
 rw [hr,hc,h2];simp only [Int.toNat_natCast];rw [← zmo]
theorem ze3 (v:Value) (l:List Int) (M:Nat) (w0 w:World) (F:HP) (hs:Sat w0 w (z5 .i64 v l*F)) (hl:l.length≤64) (hM:M≤32) :
  Calls Tryz.prog 43 #[v,.int .i64 M] w fun en w'=>(ziX l→∃ b,en=.returned (.tuple #[.pointer (some ⟨b,0,none⟩),.int .i64 0])∧Sat w0 w' (lkP b (z5x l M)*(z5 .i64 v l*F))) ∧
   (¬ ziX l→en=.returned (.tuple #[.pointer none,.int .i64 1])∧Sat w0 w' (z5 .i64 v l*F)):=by
 obtain ⟨a,cap,rfl⟩:=hs.slice_form;have d1:decide ((64:Int)<(l.length:Int))=false:=by simp;omega
 have d2:decide ((32:Int)<(M:Int))=false:=by simp;omega
 have d3:decide ((M:Int)<0)=false:=by simp
 have hmk:=zkI M hM
 go_enter Tryz.func43,Tryz.ntmps43
 go_upto_region 3 with fail
 go_cut [6] (fun p wx=>∃ b a0 c0 a1 c1 g,p=.pointer (some ⟨b,0,none⟩)∧Sat w0 wx (pts b 0 [.slice a0 l.length c0,.slice a1 l.length c1,.slice none 0 0,.slice (some ⟨g,0,none⟩) M M]*(z5 .i64 (.slice a0 l.length c0) l*(z5 .i64 (.slice a1 l.length c1) l*(z2Q g 0 (List.replicate M 0) (List.replicate M [])*(z5 .i64 (.slice a l.length cap) l*F))))))
 case first =>
  refine z4l (fun _=>True) (.read 0 (.read 2 (.read 4 (.alt 1 (.alt 3 (.run 5 (.read 6 (.run 7 (.read 8 .done)))) 5 (.run 3 (.read 6 (.run 7 (.read 8 .done))))) 5 (.run 1 (.run 3 (.read 6 (.run 7 (.read 8 .done))))))))) (by kernel_rfl) (by kernel_rfl) (fun _ _ _ _ h=>h) trivial ?_
  iterate 3 (first | refine ztb ?_ | refine zta ?_)
  refine z4a ?_ ?_
  ·refine z1t (fun K hK=>?_);simp only [zqS,zqZ];rw [if_pos (by rfl)];go_wp2_with fail;refine (z0V _ l w0 _ _ z6 rd (by omega)).mono ?_;rintro en w1 ⟨v1,rfl,hs1⟩;obtain ⟨a1,c1,rfl⟩:=hs1.slice_form;go_wp2_with fail;refine ⟨fun _=>True,fun _ h=>h,trivial,?_⟩;refine z4a ?_ ?_
   ·refine z1t (fun K hK=>?_);simp only [zqS,zqZ];rw [if_pos (by rfl)];go_wp2_with fail;refine (z0V (.slice a l.length cap) l w0 _ _ z6 rd (by omega)).mono ?_;rintro en w2 ⟨v2,rfl,hs2⟩;obtain ⟨a2,c2,rfl⟩:=hs2.slice_form;go_wp2_with fail;refine ⟨fun _=>True,fun _ h=>h,trivial,?_⟩;refine z1t (fun K hK=>?_);simp only [zqS,zqZ];rw [if_pos (by rfl)];go_wp2_with fail;refine ⟨fun _=>True,fun _ h=>h,trivial,?_⟩
    iterate 1 (first | refine ztb ?_ | refine zta ?_)
    refine z1t (fun K hK=>?_);simp only [zqS,zqZ];rw [if_pos (by rfl)];go_wp2_with fail;refine ⟨fun _=>True,fun _ h=>h,trivial,?_⟩
    iterate 1 (first | refine ztb ?_ | refine zta ?_)
    refine z16 ?_;go_wp2_with fail
    go_meet
    refine ⟨_,a1,c1,a2,c2,w2.heap.size,rfl,?_⟩;exact (z6v w2.heap.size M 0 _ own).perm (by ac_rfl)
   ·refine z1t (fun K hK=>?_);simp only [zqS,zqZ];rw [if_pos (by rfl)];go_wp2_with fail;refine ⟨fun _=>True,fun _ h=>h,trivial,?_⟩;refine z1t (fun K hK=>?_);simp only [zqS,zqZ];rw [if_pos (by rfl)];go_wp2_with fail;refine (z0V (.slice a l.length cap) l w0 _ _ z6 rd (by omega)).mono ?_;rintro en w2 ⟨v2,rfl,hs2⟩;obtain ⟨a2,c2,rfl⟩:=hs2.slice_form;go_wp2_with fail;refine ⟨fun _=>True,fun _ h=>h,trivial,?_⟩
    iterate 1 (first | refine ztb ?_ | refine zta ?_)
    refine z1t (fun K hK=>?_);simp only [zqS,zqZ];rw [if_pos (by rfl)];go_wp2_with fail;refine ⟨fun _=>True,fun _ h=>h,trivial,?_⟩
    iterate 1 (first | refine ztb ?_ | refine zta ?_)
    refine z16 ?_;go_wp2_with fail
    go_meet
    refine ⟨_,a1,c1,a2,c2,w1.heap.size,rfl,?_⟩;exact (z6v w1.heap.size M 0 _ own).perm (by ac_rfl)
  ·refine z1t (fun K hK=>?_);simp only [zqS,zqZ];rw [if_pos (by rfl)];go_wp2_with fail;refine ⟨fun _=>True,fun _ h=>h,trivial,?_⟩;refine z1t (fun K hK=>?_);simp only [zqS,zqZ];rw [if_pos (by rfl)];go_wp2_with fail;refine (z0V (.slice a l.length cap) l w0 _ _ z6 rd (by omega)).mono ?_;rintro en w1 ⟨v1,rfl,hs1⟩;obtain ⟨a1,c1,rfl⟩:=hs1.slice_form;go_wp2_with fail;refine ⟨fun _=>True,fun _ h=>h,trivial,?_⟩;refine z1t (fun K hK=>?_);simp only [zqS,zqZ];rw [if_pos (by rfl)];go_wp2_with fail;refine (z0V (.slice a l.length cap) l w0 _ _ z6 rd (by omega)).mono ?_;rintro en w2 ⟨v2,rfl,hs2⟩;obtain ⟨a2,c2,rfl⟩:=hs2.slice_form;go_wp2_with fail;refine ⟨fun _=>True,fun _ h=>h,trivial,?_⟩
   iterate 1 (first | refine ztb ?_ | refine zta ?_)
   refine z1t (fun K hK=>?_);simp only [zqS,zqZ];rw [if_pos (by rfl)];go_wp2_with fail;refine ⟨fun _=>True,fun _ h=>h,trivial,?_⟩
   iterate 1 (first | refine ztb ?_ | refine zta ?_)
   refine z16 ?_;go_wp2_with fail
   go_meet
   refine ⟨_,a1,c1,a2,c2,w.heap.size,rfl,?_⟩;exact (z6v w.heap.size M 0 _ own).perm (by ac_rfl)
 case rest =>
  obtain ⟨b,a0,c0,a1,c1,g,rfl,hs1⟩:=hcut;clear hs hmk;go_wp2_with fail
  go_loopw [31] (fun i wr=>∃ (k:Nat) (a2:Option Addr) (c2:Nat) (O:List Int),k≤l.length∧i=.int .i64 k∧Hid (O=List.replicate k (-1))∧Hid (∀ x∈l.take k,0≤x∧x<32) ∧
    Sat w0 wr (pts b 0 [.slice a0 l.length c0,.slice a1 l.length c1,.slice a2 O.length c2,.slice (some ⟨g,0,none⟩) M M]*(z5 .i64 (.slice a0 l.length c0) l*(z5 .i64 (.slice a1 l.length c1) l*(z5 .i64 (.slice a2 O.length c2) O*(z2Q g 0 (List.replicate M 0) (List.replicate M [])*(z5 .i64 (.slice a l.length cap) l*F))))))) (fun i _=>l.length-z7n i)
  case atStart=>exact ⟨0,none,0,[],Nat.zero_le _,rfl,rfl,fun x hx=>by simp at hx,(hs1.slice_nil 1).perm (by
   show z5 .i64 (.slice none 0 0) []*_=_;rw [z1r,zm];show _=_*(_*(_*(z5 .i64 (.slice none 0 0) []*_)));rw [z1r,zm];rfl)⟩
  case round =>
   obtain ⟨k,a2,c2,O,hk,rfl,hO,hin,hs2⟩:=hrel;clear hs1
   by_cases hlt:k<l.length
   ·have i1:(k:Int)<(l.length:Int):=by omega
    have i2:decide (k<l.length)=true:=by simp;omega
    haveI:Lt k l.length:=⟨hlt⟩;have hOl:O.length≤64:=by rw [hO.out,List.length_replicate];omega
    have hmem:lg l k∈l:=by simp [lg,List.getD,hlt]
    have Hmem:=hid hmem;clear hmem;obtain ⟨gA,oA,rfl⟩:=Sat.someA hs2 a (by omega)
    by_cases x1:lg l k<0
    ·have e1:decide (lg l k<0)=true:=by simp [x1]
     have hno:Hid (¬ ziX l):=fun h=>by have:=h _ Hmem.out;omega
     clear x1;go_wp2_with fail;go_returns;exact ⟨fun h=>absurd h hno.out,fun _=>⟨rfl,z3⟩⟩
    ·have e1:decide (lg l k<0)=false:=by simp;omega
     by_cases x2:32≤lg l k
     ·have e2:decide (32≤lg l k)=true:=by simp [x2]
      have hno:Hid (¬ ziX l):=fun h=>by have:=h _ Hmem.out;omega
      clear x1 x2;go_wp2_with fail;go_returns;exact ⟨fun h=>absurd h hno.out,fun _=>⟨rfl,z3⟩⟩
     ·have e2:decide (32≤lg l k)=false:=by simp;omega
      have hin':Hid (∀ x∈l.take (k+1),0≤x∧x<32):=fun x hx=>by
       rw [List.take_succ_eq_append_getElem hlt,List.mem_append,List.mem_singleton] at hx
       rcases hx with hx | rfl
       ·exact hin.out x hx
       ·have:lg l k=l[k]:=by simp [lg,List.getD,hlt]
        omega
      clear x1 x2;go_wp2_with (first | (at_builtin;refine z06 rfl rfl rfl rfl (by omega) ?_;intro ap ac aL aw ahL ah1 ah2 ahs _) | (refine z0l rfl rfl rfl rfl (by omega) (by omega) ?_;intro px pc pL php phL ph1 ph2) | (refine z0B rfl rfl rfl rfl (by omega) (by omega) ?_;intro px pc pL php phL ph1 ph2));go_roundw
      case rel =>
       refine ⟨k+1,ap,ac,aL,by omega,by go_num,?_,hin',z3⟩;unfold Hid;rw [ahL.out,hO.out,List.replicate_succ']
      case measure=>simp [z7n,intOf];omega
   ·have i1:¬ (k:Int)<(l.length:Int):=by omega
    have hkl:Hid (k=l.length):=by unfold Hid;omega
    have hall:Hid (ziX l):=fun x hx=>hin.out x (by rw [hkl.out,List.take_length];exact hx);have hO':Hid (O=List.replicate l.length (-1)):=by unfold Hid;rw [hO.out,hkl.out]
    clear hin hO;go_wp2_with fail
    go_loopw [56] (fun i wr=>∃ (j:Nat) (ow:List Int),j≤M∧i=.int .i64 j∧Hid (ow=List.replicate j 255++List.replicate (M-j) 0) ∧
      Sat w0 wr (pts b 0 [.slice a0 l.length c0,.slice a1 l.length c1,.slice a2 O.length c2,.slice (some ⟨g,0,none⟩) M M]*(z5 .i64 (.slice a0 l.length c0) l*(z5 .i64 (.slice a1 l.length c1) l*(z5 .i64 (.slice a2 O.length c2) O*(z2Q g 0 ow (List.replicate M [])*(z5 .i64 (.slice a l.length cap) l*F))))))) (fun i _=>M-z7n i)
    case atStart=>exact ⟨0,List.replicate M 0,Nat.zero_le _,rfl,by simp [Hid],z3⟩
    case round =>
     obtain ⟨j,ow,hj,rfl,how,hs3⟩:=hrel;clear hs2
     by_cases hjl:j<M
     ·have i3:(j:Int)<(M:Int):=by omega
      have i4:decide (j<M)=true:=by simp;omega
      have hol:ow.length=M:=by rw [how.out];simp;omega
      haveI:Lt j ow.length:=⟨by omega⟩;haveI:z12 ow (List.replicate M []):=⟨by rw [List.length_replicate,hol]⟩;clear hol;go_wp2_with fail;go_roundw
      case rel =>
       refine ⟨j+1,ow.set j 255,by omega,by go_num,?_,z3⟩;unfold Hid;rw [how.out,List.set_append_right _ _ (by simp),List.length_replicate,Nat.sub_self,show M-j=(M-(j+1))+1 by omega,List.replicate_succ,List.set_cons_zero,List.replicate_succ',List.append_assoc]
       rfl
      case measure=>simp [z7n,intOf];omega
     ·have i3:¬ (j:Int)<(M:Int):=by omega
      have how':Hid (ow=List.replicate M 255):=by
       unfold Hid;rw [how.out,show j=M by omega];simp
      clear how;go_wp2_with fail;go_ret2;refine ⟨fun _=>⟨b,rfl,?_⟩,fun h=>absurd hall.out h⟩;refine z3K (L:=z5x l M) (v0:=.slice a0 l.length c0) (v1:=.slice a1 l.length c1) (v2:=.slice a2 O.length c2) (g:=g) (off:=0) (cap:=M) ?_;unfold Hid at hO' how';subst how';have hOl:O.length=l.length:=by rw [hO'];simp
      rw [hOl] at hs3 ⊢;subst hO';dsimp only [z5x];rw [List.length_replicate];exact z3
theorem zbV (b:Nat) (L:Lk) (t:Nat) (m:Int) (w0 w:World) (F:HP) (hs:Sat w0 w (lkP b L*F)) (hL:Fit L) (ht:t<L.own.length) (ho:lg L.on t=-1) (hm:¬ (0≤m∧m<L.ow.length)) :
  Calls Tryz.prog 152 #[.pointer (some ⟨b,0,none⟩),.int .i64 t,.int .i64 m] w (zp w0 (.tuple #[.bool false,.int .i64 15]) (lkP b L*F)):=by
 have j1:(t:Int)<(L.own.length:Int):=by omega
 have j2:decide (t<L.own.length)=true:=by simp;omega
 haveI:Lt t L.on.length:=⟨by rw [hL.lo];exact ht⟩;have hn64:=hL.n;have e1:decide (0≤lg L.on t)=false:=by simp;omega
 have Hm:=hid hm;clear ho hm
 go_enter Tryz.func152,Tryz.ntmps152
 go_wp2_with fail;refine (z1p b L t true (decide_eq_true ⟨by omega,j1⟩) w0 _ F hs hL).mono ?_;rintro en w1 ⟨rfl,hs1⟩;have H1:=hid hs1;obtain ⟨a0,c0,a1,c1,a2,c2,g,off,cap,hp,hs2⟩:=z0Q hs1 hL;obtain ⟨⟨g0,o0,rfl⟩,⟨g1,o1,rfl⟩,⟨g2,o2,rfl⟩⟩:=hp (by omega);clear hs hs1 hp;go_wp2_with fail;refine (z2O b L m false (decide_eq_false Hm.out) w0 _ F H1.out hL).mono ?_;rintro en w2 ⟨rfl,hs3⟩;clear hs2 H1;go_wp2_with fail;go_ret2;exact ⟨rfl,hs3⟩
theorem ze2 (b:Nat) (L:Lk) (t m:Nat) (w0 w:World) (F:HP) (hs:Sat w0 w (lkP b L*F)) (hL:Fit L) (ht:t<L.own.length) (ho:lg L.on t=-1) (hm:m<L.ow.length) (hown:lg L.ow m=t) :
  Calls Tryz.prog 152 #[.pointer (some ⟨b,0,none⟩),.int .i64 t,.int .i64 m] w (zp w0 (.tuple #[.bool false,.int .i64 10]) (lkP b L*F)):=by
 have j1:(t:Int)<(L.own.length:Int):=by omega
 have j2:decide (t<L.own.length)=true:=by simp;omega
 have j3:(m:Int)<(L.ow.length:Int):=by omega
 have j4:decide (m<L.ow.length)=true:=by simp;omega
 haveI:Lt t L.on.length:=⟨by rw [hL.lo];exact ht⟩;haveI:Lt m L.ow.length:=⟨hm⟩;haveI:z12 L.ow L.rows:=⟨hL.lr⟩;have hn64:=hL.n;have hm32:=hL.m;have e1:decide (0≤lg L.on t)=false:=by simp;omega
 have e2:(lg L.ow m==(t:Int))=true:=by simp [hown]
 clear ho hown
 go_enter Tryz.func152,Tryz.ntmps152
 go_wp2_with fail;refine (z1p b L t true (decide_eq_true ⟨by omega,j1⟩) w0 _ F hs hL).mono ?_;rintro en w1 ⟨rfl,hs1⟩;have H1:=hid hs1;obtain ⟨a0,c0,a1,c1,a2,c2,g,off,cap,hp,hs2⟩:=z0Q hs1 hL;obtain ⟨⟨g0,o0,rfl⟩,⟨g1,o1,rfl⟩,⟨g2,o2,rfl⟩⟩:=hp (by omega);clear hs hs1 hp;go_wp2_with fail;refine (z2O b L m true (decide_eq_true ⟨by omega,j3⟩) w0 _ F H1.out hL).mono ?_;rintro en w2 ⟨rfl,hs3⟩;clear hs2 H1;have H3:=hid hs3;obtain ⟨a0,c0,a1,c1,a2,c2,g,off,cap,hp,hs3⟩:=z0Q hs3 hL;clear hp;go_wp2_with fail;go_ret2;exact ⟨rfl,H3.out⟩
theorem z9d (b:Nat) (L:Lk) (t m:Nat) (w0 w:World) (F:HP) (hs:Sat w0 w (lkP b L*F)) (hL:Fit L) (ht:t<L.own.length) (ho:lg L.on t=-1) (hm:m<L.ow.length) (hown:lg L.ow m≠255) (hnt:lg L.ow m≠t) (hc:Go.Lk.Reach L (lg L.ow m).toNat t) :
  Calls Tryz.prog 152 #[.pointer (some ⟨b,0,none⟩),.int .i64 t,.int .i64 m] w (zp w0 (.tuple #[.bool false,.int .i64 11]) (lkP b L*F)):=by
 have j1:(t:Int)<(L.own.length:Int):=by omega
 have j2:decide (t<L.own.length)=true:=by simp;omega
 have j3:(m:Int)<(L.ow.length:Int):=by omega
 have j4:decide (m<L.ow.length)=true:=by simp;omega
 haveI:Lt t L.on.length:=⟨by rw [hL.lo];exact ht⟩;haveI:Lt m L.ow.length:=⟨hm⟩;haveI:z12 L.ow L.rows:=⟨hL.lr⟩;have hn64:=hL.n;have hm32:=hL.m;have h0:0≤lg L.ow m∧lg L.ow m<L.own.length:=(hL.owr m hm).resolve_left hown;obtain ⟨y,hy⟩:=Int.eq_ofNat_of_zero_le h0.1;have hyl:y<L.own.length:=by omega
 have Hc:Hid (Go.Lk.Reach L y t):=by unfold Hid;rw [hy] at hc;exact hc
 have e1:decide (0≤lg L.on t)=false:=by simp;omega
 have e2b:((y:Int)==(t:Int))=false:=by simp;omega
 have e3:((y:Int)==255)=false:=by simp;omega
 have HL:=hid hL;clear ho hown hnt hc h0 hL
 go_enter Tryz.func152,Tryz.ntmps152
 go_wp2_with fail;refine (z1p b L t true (decide_eq_true ⟨by omega,j1⟩) w0 _ F hs HL.out).mono ?_;rintro en w1 ⟨rfl,hs1⟩;have H1:=hid hs1;obtain ⟨a0,c0,a1,c1,a2,c2,g,off,cap,hp,hs2⟩:=z0Q hs1 HL.out;obtain ⟨⟨g0,o0,rfl⟩,⟨g1,o1,rfl⟩,⟨g2,o2,rfl⟩⟩:=hp (by omega);clear hs hs1 hp;go_wp2_with fail;refine (z2O b L m true (decide_eq_true ⟨by omega,j3⟩) w0 _ F H1.out HL.out).mono ?_;rintro en w2 ⟨rfl,hs3⟩;clear hs2 H1;obtain ⟨a0,c0,a1,c1,a2,c2,g,off,cap,hp,hs4⟩:=z0Q hs3 HL.out;obtain ⟨⟨g0,o0,rfl⟩,⟨g1,o1,rfl⟩,⟨g2,o2,rfl⟩⟩:=hp (by omega);clear hp hs3;go_wp2_with fail;refine (zaA b L t y g0 o0 c0 g1 o1 c1 g2 o2 c2 g off cap w0 _ F z3 HL.out ht hyl).mono ?_;rintro en w3 ⟨x,rfl,hx,hs5⟩;obtain rfl:x=true:=hx.2 Hc.out;clear hs4 hx;go_wp2_with fail;go_ret2;exact ⟨rfl,z3K (v0:=.slice (some ⟨g0,o0,none⟩) L.own.length c0) (v1:=.slice (some ⟨g1,o1,none⟩) L.own.length c1) (v2:=.slice (some ⟨g2,o2,none⟩) L.own.length c2) (g:=g) (off:=off) (cap:=cap) hs5⟩
def z2j (L:Lk) (m:Int):List Int:=if 0≤m∧m<L.ow.length then rg L.rows m.toNat else []
def z6V (ow:List Int) (t:Int) (k:Nat):List Int:=((List.range k).filter fun i=>lg ow i==t).map fun (i:Nat)=>(i:Int)
theorem zdN (ow:List Int) (t:Int) (k:Nat):z6V ow t (k+1)=z6V ow t k++if lg ow k=t then [(k:Int)] else []:=by
 unfold z6V;rw [List.range_succ,List.filter_append,List.map_append]
 congr 1
 by_cases h:lg ow k=t
 ·simp [h]
 ·simp [h]
theorem zaf (ow:List Int) (t:Int) (k:Nat):(z6V ow t k).length≤k:=by
 unfold z6V;rw [List.length_map];exact Nat.le_trans (List.length_filter_le _ _) (by simp)
def z1O (L:Lk) (t:Int):List Int:=if 0≤t∧t<L.own.length then z6V L.ow t L.ow.length else []
theorem zfF (b:Nat) (L:Lk) (m:Int) (w0 w:World) (F:HP) (hs:Sat w0 w (lkP b L*F)) (hL:Fit L) :
  Calls Tryz.prog 57 #[.pointer (some ⟨b,0,none⟩),.int .i64 m] w (Ret w0 fun v=>z5 .i64 v (z2j L m)*(lkP b L*F)):=by
 by_cases h:0≤m∧m<L.ow.length
 ·have e:z2j L m=rg L.rows m.toNat:=if_pos h;rw [e];obtain ⟨k,rfl⟩:=Int.eq_ofNat_of_zero_le h.1;rw [show Int.toNat (k:Int)=k by omega];have hk:k<L.ow.length:=by omega
  have j1:(k:Int)<(L.ow.length:Int):=by omega
  have j2:decide (k<L.ow.length)=true:=by simp;omega
  have hn64:=hL.m;have Hrow:=hid (z0J (zgt hL hk));have HL:=hid hL
  go_enter Tryz.func57,Tryz.ntmps57
  go_wp2_with fail;refine (z2O b L k true (decide_eq_true h) w0 _ F hs hL).mono ?_;rintro en w1 ⟨rfl,hs1⟩;obtain ⟨a0,c0,a1,c1,a2,c2,g,off,cap,hp,hs1⟩:=z0Q hs1 hL;have Hmr:=hid (z2h g off k L.ow L.rows hk hL.lr);clear hs h e hL hp;rw [Hmr.out] at hs1;go_wp2_with fail;refine (zdn g (off+k*2+1) (rg L.rows k) w0 _ _ own (by have:=Hrow.out;omega)).mono ?_;rintro en w2 ⟨v,rfl,hs2⟩;obtain ⟨av,cv,rfl⟩:=hs2.slice_form;go_wp2_with fail;go_ret;refine ⟨_,rfl,?_⟩;have h3:Sat w0 w2 (lkP b L*(z5 .i64 (.slice av (rg L.rows k).length cv) (rg L.rows k)*F)):=z3K (v0:=.slice a0 L.own.length c0) (v1:=.slice a1 L.own.length c1) (v2:=.slice a2 L.own.length c2) (g:=g) (off:=off) (cap:=cap) (by rw [Hmr.out];exact hs2.perm (by ac_rfl));exact h3.perm (by ac_rfl)
 ·have e:z2j L m=[]:=if_neg h;rw [e]
  go_enter Tryz.func57,Tryz.ntmps57
  go_wp2_with fail;refine (z2O b L m false (decide_eq_false h) w0 _ F hs hL).mono ?_;rintro en w1 ⟨rfl,hs1⟩;go_wp2_with fail;go_ret;exact ⟨_,rfl,hs1.slice_nil 1⟩
theorem zmi (b:Nat) (L:Lk) (t:Int) (w0 w:World) (F:HP) (hs:Sat w0 w (lkP b L*F)) (hL:Fit L) :
  Calls Tryz.prog 120 #[.pointer (some ⟨b,0,none⟩),.int .i64 t] w (Ret w0 fun v=>z5 .i64 v (z1O L t)*(lkP b L*F)):=by
 by_cases h:0≤t∧t<L.own.length
 ·have e:z1O L t=z6V L.ow t L.ow.length:=if_pos h;rw [e];have hm32:=hL.m;have HL:=hid hL;haveI:z12 L.ow L.rows:=⟨hL.lr⟩
  go_enter Tryz.func120,Tryz.ntmps120
  go_wp2_with fail;refine (z1p b L t true (decide_eq_true h) w0 _ F hs hL).mono ?_;rintro en w1 ⟨rfl,hs1⟩;obtain ⟨a0,c0,a1,c1,a2,c2,g,off,cap,hp,hs1⟩:=z0Q hs1 hL;clear hs h e hL hp;go_wp2_with fail
  go_loopw [5,20] (fun v i wr=>∃ (k:Nat) (a3:Option Addr) (c3:Nat) (O:List Int),k≤L.ow.length∧i=.int .i64 k∧v=.slice a3 O.length c3∧Hid (O=z6V L.ow t k)∧O.length≤32 ∧
    Sat w0 wr (z5 .i64 (.slice a3 O.length c3) O*(pts b 0 [.slice a0 L.own.length c0,.slice a1 L.own.length c1,.slice a2 L.own.length c2,.slice (some ⟨g,off,none⟩) L.ow.length cap]*(z5 .i64 (.slice a0 L.own.length c0) L.own*(z5 .i64 (.slice a1 L.own.length c1) L.now*(z5 .i64 (.slice a2 L.own.length c2) L.on*(z2Q g off L.ow L.rows*F))))))) (fun _ i _=>L.ow.length-z7n i)
  case atStart=>exact ⟨0,none,0,[],Nat.zero_le _,rfl,rfl,rfl,by simp,hs1.slice_nil 1⟩
  case round =>
   obtain ⟨k,a3,c3,O,hk,rfl,rfl,hO,hOl,hs2⟩:=hrel;clear hs1
   by_cases hlt:k<L.ow.length
   ·have i1:(k:Int)<(L.ow.length:Int):=by omega
    have i2:decide (k<L.ow.length)=true:=by simp;omega
    haveI:Lt k L.ow.length:=⟨hlt⟩;have hne:=hid (zdN L.ow t k);have hlen:=hid (zaf L.ow t (k+1))
    by_cases hx:lg L.ow k=t
    ·have e1:(lg L.ow k==t)=true:=by simp [hx]
     have Hx:=hid hx;clear hx;go_wp2_with (first | (at_builtin;refine z06 rfl rfl rfl rfl (by omega) ?_;intro ap ac aL aw ahL ah1 ah2 ahs _) | (refine z0l rfl rfl rfl rfl (by omega) (by omega) ?_;intro px pc pL php phL ph1 ph2) | (refine z0B rfl rfl rfl rfl (by omega) (by omega) ?_;intro px pc pL php phL ph1 ph2));go_roundw
     case rel =>
      have h9:aL=z6V L.ow t (k+1):=by rw [hne.out,if_pos Hx.out,ahL.out,hO.out]
      exact ⟨k+1,ap,ac,aL,by omega,by go_num,rfl,h9,by rw [h9];have:=hlen.out;omega,z3⟩
     case measure=>simp [z7n,intOf];omega
    ·have e1:(lg L.ow k==t)=false:=by simp [hx]
     have Hx:=hid hx;clear hx;go_wp2_with (first | (at_builtin;refine z06 rfl rfl rfl rfl (by omega) ?_;intro ap ac aL aw ahL ah1 ah2 ahs _) | (refine z0l rfl rfl rfl rfl (by omega) (by omega) ?_;intro px pc pL php phL ph1 ph2) | (refine z0B rfl rfl rfl rfl (by omega) (by omega) ?_;intro px pc pL php phL ph1 ph2));go_roundw
     case rel=>exact ⟨k+1,a3,c3,O,by omega,by go_num,rfl,by unfold Hid;rw [hne.out,if_neg Hx.out,List.append_nil];exact hO.out,hOl,z3⟩
     case measure=>simp [z7n,intOf];omega
   ·have i1:¬ (k:Int)<(L.ow.length:Int):=by omega
    have hkl:k=L.ow.length:=by omega
    have hO':Hid (O=z6V L.ow t L.ow.length):=by unfold Hid;rw [hO.out,hkl]
    clear hO hkl;go_wp2_with fail;go_ret;refine ⟨_,rfl,?_⟩;have h3:Sat w0 wr (lkP b L*(z5 .i64 (.slice a3 O.length c3) O*F)):=z3K (v0:=.slice a0 L.own.length c0) (v1:=.slice a1 L.own.length c1) (v2:=.slice a2 L.own.length c2) (g:=g) (off:=off) (cap:=cap) z3;rw [← hO'.out];exact h3.perm (by ac_rfl)
 ·have e:z1O L t=[]:=if_neg h;rw [e]
  go_enter Tryz.func120,Tryz.ntmps120
  go_wp2_with fail;refine (z1p b L t false (decide_eq_false h) w0 _ F hs hL).mono ?_;rintro en w1 ⟨rfl,hs1⟩;go_wp2_with fail;go_ret;exact ⟨_,rfl,hs1.slice_nil 1⟩
open Classical in
/-- What Lock answers,and makes (the levels aside). -/
noncomputable def z0f (L:Lk) (t m:Int):Bool×Int×Lk :=
 if ¬ (0≤t∧t<L.own.length) then (false,1,L)
 else if 0≤lg L.on t.toNat then (false,1,L)
 else if ¬ (0≤m∧m<L.ow.length) then (false,15,L)
 else if lg L.ow m.toNat=t then (false,10,L)
 else if lg L.ow m.toNat=255 then (true,0,z4d L m.toNat t.toNat)
 else if Go.Lk.Reach L (lg L.ow m.toNat).toNat t.toNat then (false,11,L)
 else (false,0,z32 L m.toNat t.toNat)
def zi (L:Lk) (t m:Int):Int×Int×Lk :=
 if ¬ (0≤t∧t<L.own.length) then (255,1,L)
 else if ¬ (0≤m∧m<L.ow.length) then (255,15,L)
 else if lg L.ow m.toNat≠t then (255,10,L)
 else if rg L.rows m.toNat=[] then (255,0,z3s L m.toNat)
 else (zD L.now (rg L.rows m.toNat),0,z39 L m.toNat (zD L.now (rg L.rows m.toNat)).toNat)
def z8F (L:Lk) (now:List Int):Lk:={ L with now:=now }
structure Good (L:Lk):Prop where
 fit:Fit L
 lev:Lev L
theorem zmj (b:Nat) (L:Lk) (t m:Int) (w0 w:World) (F:HP) (hs:Sat w0 w (lkP b L*F)) (hL:Good L) :
  Calls Tryz.prog 152 #[.pointer (some ⟨b,0,none⟩),.int .i64 t,.int .i64 m] w fun en w'=>en=.returned (.tuple #[.bool (z0f L t m).1,.int .i64 (z0f L t m).2.1])∧∃ now',Good (z8F (z0f L t m).2.2 now')∧Sat w0 w' (lkP b (z8F (z0f L t m).2.2 now')*F):=by
 have stay:∀ {en:Ending} {v:Value} {w':World},zp w0 v (lkP b L*F) en w'→en=.returned v∧∃ now',Good (z8F L now')∧Sat w0 w' (lkP b (z8F L now')*F):=fun h=>⟨h.1,L.now,hL,h.2⟩;unfold z0f
 by_cases h1:0≤t∧t<L.own.length
 ·rw [if_neg (Classical.not_not.2 h1)];obtain ⟨t,rfl⟩:=Int.eq_ofNat_of_zero_le h1.1;have ht:t<L.own.length:=by omega
  rw [show Int.toNat (t:Int)=t by omega]
  by_cases h2:0≤lg L.on t
  ·rw [if_pos h2];exact (zaC b L t m w0 w F hs hL.fit ht h2).mono fun en w' h=>stay h
  ·rw [if_neg h2];have ho:lg L.on t=-1:=by
    rcases hL.fit.onr t ht with e | e
    ·exact e
    ·exact absurd e.1 h2
   by_cases h3:0≤m∧m<L.ow.length
   ·rw [if_neg (Classical.not_not.2 h3)];obtain ⟨m,rfl⟩:=Int.eq_ofNat_of_zero_le h3.1;have hm:m<L.ow.length:=by omega
    rw [show Int.toNat (m:Int)=m by omega]
    by_cases h4:lg L.ow m=t
    ·rw [if_pos h4];exact (ze2 b L t m w0 w F hs hL.fit ht ho hm h4).mono fun en w' h=>stay h
    ·rw [if_neg h4]
     by_cases h5:lg L.ow m=255
     ·rw [if_pos h5];exact (zbW b L t m w0 w F hs hL.fit ht ho hm h5).mono fun en w' h=>⟨h.1,L.now,⟨z6l hL.fit hm h5 ht,z9c hL.fit hL.lev hm h5⟩,h.2⟩
     ·rw [if_neg h5]
      by_cases h6:Go.Lk.Reach L (lg L.ow m).toNat t
      ·rw [if_pos h6];exact (z9d b L t m w0 w F hs hL.fit ht ho hm h5 h4 h6).mono fun en w' h=>stay h
      ·rw [if_neg h6];exact (zbY b L t m w0 w F hs hL.fit hL.lev ht ho hm h5 h4 h6).mono fun en w' ⟨h,now',a,b,c⟩=>⟨h,now',⟨a,b⟩,c⟩
   ·rw [if_pos h3];exact (zbV b L t m w0 w F hs hL.fit ht ho h3).mono fun en w' h=>stay h
 ·rw [if_pos h1];exact (zbX b L t m w0 w F hs hL.fit h1).mono fun en w' h=>stay h
theorem zhH (b:Nat) (L:Lk) (t m:Int) (w0 w:World) (F:HP) (hs:Sat w0 w (lkP b L*F)) (hL:Good L) :
  Calls Tryz.prog 121 #[.pointer (some ⟨b,0,none⟩),.int .i64 t,.int .i64 m] w fun en w'=>en=.returned (.tuple #[.int .i64 (zi L t m).1,.int .i64 (zi L t m).2.1])∧∃ now',Good (z8F (zi L t m).2.2 now')∧Sat w0 w' (lkP b (z8F (zi L t m).2.2 now')*F):=by
 have stay:∀ {en:Ending} {v:Value} {w':World},zp w0 v (lkP b L*F) en w'→en=.returned v∧∃ now',Good (z8F L now')∧Sat w0 w' (lkP b (z8F L now')*F):=fun h=>⟨h.1,L.now,hL,h.2⟩;unfold zi
 by_cases h1:0≤t∧t<L.own.length
 ·rw [if_neg (Classical.not_not.2 h1)]
  by_cases h3:0≤m∧m<L.ow.length
  ·rw [if_neg (Classical.not_not.2 h3)];obtain ⟨m,rfl⟩:=Int.eq_ofNat_of_zero_le h3.1;have hm:m<L.ow.length:=by omega
   rw [show Int.toNat (m:Int)=m by omega]
   by_cases h4:lg L.ow m=t
   ·rw [if_neg (Classical.not_not.2 h4)];obtain ⟨t,rfl⟩:=Int.eq_ofNat_of_zero_le h1.1;have ht:t<L.own.length:=by omega
    by_cases h5:rg L.rows m=[]
    ·rw [if_pos h5];exact (z9f b L t m w0 w F hs hL.fit ht hm h4 h5).mono fun en w' ⟨h,now',a,b,c⟩=>⟨h,now',⟨a,b⟩,c⟩
    ·rw [if_neg h5];refine (z9g b L t m w0 w F hs hL.fit ht hm h4 h5).mono ?_;rintro en w' ⟨x,hx,rfl,now',a,c,d⟩;rw [hx];exact ⟨rfl,now',⟨a,c⟩,d⟩
   ·rw [if_pos h4];exact (z82 b L t m w0 w F hs hL.fit h1 hm h4).mono fun en w' h=>stay h
  ·rw [if_pos h3];exact (z9h b L t m w0 w F hs hL.fit h1 h3).mono fun en w' h=>stay h
 ·rw [if_pos h1];exact (z9i b L t m w0 w F hs hL.fit h1).mono fun en w' h=>stay h
theorem zcQ (l:List Int) (M:Nat) (hl:l.length≤64) (hM:M≤32) (h:ziX l):Good (z5x l M):=by
 have hon:∀ t, ¬ 0≤z0N (z5x l M) t∨l.length≤t:=fun t=>by
  by_cases ht:t<l.length
  ·left
   show ¬ 0≤lg (List.replicate l.length (-1)) t;simp [lg,List.getD,ht]
  ·right;omega
 have hr:∀ t,t<l.length→0≤lg l t∧lg l t<32:=fun t ht=>h _ (by simp [lg,List.getD,ht]);refine ⟨⟨hl,rfl,by simp [z5x],by simpa [z5x] using hM,by simp [z5x],hr,hr,fun t ht=>.inl ?_,fun m hm=>.inl ?_,fun m hm=>⟨?_,fun t=>?_⟩,⟨fun _=>0,fun t ht ho=>?_⟩⟩,⟨fun t ht=>Int.le_refl _,fun t ht ho=>?_,fun t ht=>⟨t,ht,.refl,rfl⟩⟩⟩
 ·have ht':t<l.length:=ht;show lg (List.replicate l.length (-1)) t=-1;simp [lg,List.getD,ht']
 ·have hm':m<M:=by simpa [z5x] using hm
  show lg (List.replicate M 255) m=255;simp [lg,List.getD,hm']
 ·have hm':m<M:=by simpa [z5x] using hm
  have:Go.Lk.rowAt (z5x l M) m=[]:=by simp [Go.Lk.rowAt,z5x,List.getD,hm']
  rw [this];simp
 ·have hm':m<M:=by simpa [z5x] using hm
  have:Go.Lk.rowAt (z5x l M) m=[]:=by simp [Go.Lk.rowAt,z5x,List.getD,hm']
  rw [this]
  constructor
  ·intro h;cases h
  ·rintro ⟨a,b,c⟩;have hb:t<l.length:=b;have e:z0N (z5x l M) t.toNat=-1:=by
    show lg (List.replicate l.length (-1)) t.toNat=-1;simp [lg,List.getD,show t.toNat<l.length by omega]
   omega
 ·rcases hon t with h | h
  ·exact absurd ho h
  ·exact absurd ht (Nat.not_lt.2 h)
 ·rcases hon t with h | h
  ·exact absurd ho h
  ·exact absurd ht (Nat.not_lt.2 h)
end Go.Proofs.YtgiiidminlhbpaaGreatDoor
namespace Go.Lk
open Go.Proofs.YtgiiidminlhbpaaGreatDoor (z2g rg z7F z47 z8F)
def z4F (o:Int) (now:List Int) (w:Int):List Int:=if lg now w.toNat<lg now o.toNat then now.set o.toNat (lg now w.toNat) else now
def z9z (o:Int) (now r:List Int):List Int:=r.foldl (z4F o) now
def zeb (ow:List Int) (rows:List (List Int)) (now:List Int):Nat→List Int
 | 0=>now
 | m+1=>z9z (lg ow m) (zeb ow rows now m) (rg rows m)
def z1l (ow:List Int) (rows:List (List Int)) (own:List Int):Nat→List Int
 | 0=>own
 | k+1=>zeb ow rows (z1l ow rows own k) ow.length
def z4U (own ow:List Int) (rows:List (List Int)):List Int:=z1l ow rows own own.length
structure zgZ (L:Lk) (now:List Int):Prop where
 len:now.length=L.own.length
 up:∀ t,t<L.own.length→lg now t≤z4c L t
 att:∀ t,t<L.own.length→∃ s,s<L.own.length∧Go.Lk.Reach L s t∧lg now t=z4c L s
def z4z (L:Lk) (a b:List Int):Prop:=∀ t,t<L.own.length→lg b t≤lg a t
theorem z4z.refl (L:Lk) (a:List Int):z4z L a a:=fun _ _=>Int.le_refl _
theorem z4z.trans {L:Lk} {a b c:List Int} (h:z4z L a b) (k:z4z L b c):z4z L a c:=fun t ht=>Int.le_trans (k t ht) (h t ht)
theorem zec {L:Lk}:zgZ L L.own:=⟨rfl,fun _ _=>Int.le_refl _,fun t ht=>⟨t,ht,.refl,rfl⟩⟩
theorem zdp {L:Lk} (hf:Fit L) {m:Nat} (hm:m<L.ow.length) {w:Int} (hw:w∈rg L.rows m):∃ u:Nat,w=u∧u<L.own.length∧z0N L u=m∧nx L u=(lg L.ow m).toNat∧(lg L.ow m).toNat<L.own.length:=by
 have h1:=((hf.row m hm).2 w).1 hw;obtain ⟨u,rfl⟩:=Int.eq_ofNat_of_zero_le h1.1;have h2:z0N L u=m:=h1.2.2;have hu:u<L.own.length:=by omega
 have h3:nx L u=(lg L.ow m).toNat:=by
  unfold nx;rw [h2];rfl
 exact ⟨u,rfl,hu,h2,h3,h3 ▸ zaK hf hu (by omega)⟩
theorem zhf {L:Lk} (hf:Fit L) {m:Nat} (hm:m<L.ow.length) {w:Int} (hw:w∈rg L.rows m) {now:List Int} (h:zgZ L now):zgZ L (z4F (lg L.ow m) now w)∧z4z L now (z4F (lg L.ow m) now w)∧lg (z4F (lg L.ow m) now w) (lg L.ow m).toNat≤lg now w.toNat:=by
 obtain ⟨u,rfl,hu,hon,hnx,hol⟩:=zdp hf hm hw;unfold z4F;rw [show ((u:Int)).toNat=u by omega];have hlen:(lg L.ow m).toNat<now.length:=by rw [h.len];exact hol
 split
 ·rename_i hlt
  refine ⟨⟨by rw [List.length_set];exact h.len,fun t ht=>?_,fun t ht=>?_⟩,fun t ht=>?_,?_⟩
  ·rw [z2g hlen];split
   ·rename_i e;subst e
    exact Int.le_trans (Int.le_of_lt hlt) (h.up _ ht)
   ·exact h.up t ht
  ·rw [z2g hlen];split
   ·rename_i e;subst e
    obtain ⟨s,hs,hr,e⟩:=h.att u hu;exact ⟨s,hs,hnx ▸ .step hr (by omega),e⟩
   ·exact h.att t ht
  ·rw [z2g hlen];split
   ·rename_i e;subst e;exact Int.le_of_lt hlt
   ·exact Int.le_refl _
  ·rw [z2g hlen,if_pos rfl];exact Int.le_refl _
 ·rename_i hge
  exact ⟨h,z4z.refl _ _,by omega⟩
theorem zgs {L:Lk} (hf:Fit L) {m:Nat} (hm:m<L.ow.length):∀ (r:List Int) (now:List Int) (_:∀ w∈r,w∈rg L.rows m) (_:zgZ L now),
  zgZ L (z9z (lg L.ow m) now r)∧z4z L now (z9z (lg L.ow m) now r)∧∀ w∈r,lg (z9z (lg L.ow m) now r) (lg L.ow m).toNat≤lg now w.toNat
 | [],now,_,h=>⟨h,z4z.refl _ _,fun w hw=>by cases hw⟩
 | x::r,now,hr,h=>by
  obtain ⟨a,b,c⟩:=zhf hf hm (hr x (by simp)) h;obtain ⟨d,e,f⟩:=zgs hf hm r _ (fun w hw=>hr w (by simp [hw])) a;refine ⟨d,b.trans e,fun w hw=>?_⟩;obtain ⟨u,rfl,hu,hon,hnx,hol⟩:=zdp hf hm (hr w hw);rw [show ((u:Int)).toNat=u by omega]
  rcases List.mem_cons.1 hw with hx | hx
  ·have h1:=e (lg L.ow m).toNat hol;subst hx;rw [show ((u:Int)).toNat=u by omega] at c;exact Int.le_trans h1 c
  ·have h1:=f _ hx;rw [show ((u:Int)).toNat=u by omega] at h1;exact Int.le_trans h1 (b u hu)
theorem z4P {L:Lk} (hf:Fit L) (now:List Int) (h:zgZ L now):∀ M,M≤L.ow.length →
  zgZ L (zeb L.ow L.rows now M)∧z4z L now (zeb L.ow L.rows now M)∧∀ m,m<M→∀ w∈rg L.rows m,lg (zeb L.ow L.rows now M) (lg L.ow m).toNat≤lg now w.toNat
 | 0,_=>⟨h,z4z.refl _ _,fun m hm=>absurd hm (by omega)⟩
 | M+1,hM=>by
  obtain ⟨a,b,c⟩:=z4P hf now h M (by omega);obtain ⟨d,e,f⟩:=zgs hf (show M<L.ow.length by omega) (rg L.rows M) _ (fun w hw=>hw) a;refine ⟨d,b.trans e,fun m hm w hw=>?_⟩
  by_cases hmM:m=M
  ·subst hmM;obtain ⟨u,rfl,hu,_,_,hol⟩:=zdp hf (by omega) hw;have:=f _ hw;rw [show ((u:Int)).toNat=u by omega] at this ⊢;exact Int.le_trans this (b u hu)
  ·obtain ⟨u,rfl,hu,_,_,hol⟩:=zdp hf (show m<L.ow.length by omega) hw;exact Int.le_trans (e _ hol) (c m (by omega) _ hw)
theorem zg7 {L:Lk} (hf:Fit L) {now:List Int} (h:zgZ L now) {t:Nat} (ht:t<L.own.length) (ho:0≤z0N L t):lg (zeb L.ow L.rows now L.ow.length) (nx L t)≤lg now t:=by
 obtain ⟨m,hm⟩:=Int.eq_ofNat_of_zero_le ho;have hml:m<L.ow.length:=by
  rcases hf.onr t ht with e | ⟨_,h2,_,_⟩
  ·omega
  ·omega
 have hw:(t:Int)∈rg L.rows m:=((hf.row m hml).2 t).2 ⟨by omega,by omega,by rw [show ((t:Int)).toNat=t by omega];exact hm⟩;have h1:=(z4P hf now h L.ow.length (Nat.le_refl _)).2.2 m hml _ hw;have h2:nx L t=(lg L.ow m).toNat:=by unfold nx;rw [hm];rfl
 rw [show ((t:Int)).toNat=t by omega] at h1;rw [h2];exact h1
theorem z28 {L:Lk} (hf:Fit L):∀ k,zgZ L (z1l L.ow L.rows L.own k)
 | 0=>zec
 | k+1=>(z4P hf _ (z28 hf k) _ (Nat.le_refl _)).1
theorem z5W {L:Lk} (hf:Fit L):∀ j k,z4z L (z1l L.ow L.rows L.own j) (z1l L.ow L.rows L.own (j+k))
 | j,0=>z4z.refl _ _
 | j,k+1=>(z5W hf j k).trans (z4P hf _ (z28 hf _) _ (Nat.le_refl _)).2.1
inductive z6D (L:Lk) (s:Nat):Nat→Nat→Prop
 | refl:z6D L s 0 s
 | step {k t:Nat}:z6D L s k t→0≤z0N L t→z6D L s (k+1) (nx L t)
theorem zgc {L:Lk} {s t:Nat} (h:Go.Lk.Reach L s t):∃ k,z6D L s k t:=by
 induction h with
 | refl=>exact ⟨0,.refl⟩
 | step _ ho ih=>obtain ⟨k,h⟩:=ih;exact ⟨k+1,.step h ho⟩
theorem zaS {L:Lk} (hf:Fit L) {s k t:Nat} (hs:s<L.own.length) (h:z6D L s k t):t<L.own.length:=by
 induction h with
 | refl=>exact hs
 | step _ ho ih=>exact zaK hf ih ho
theorem zaM {L:Lk} (hf:Fit L) {s k t:Nat} (hs:s<L.own.length) (h:z6D L s k t):lg (z1l L.ow L.rows L.own k) t≤z4c L s:=by
 induction h with
 | refl=>exact Int.le_refl _
 | step hr ho ih=>exact Int.le_trans (zg7 hf (z28 hf _) (zaS hf hs hr) ho) ih
def below (rk:Nat→Nat) (n t:Nat):Nat:=(List.range n).countP fun x=>decide (rk x<rk t)
theorem z6K {p q:Nat→Bool} (h:∀ x,p x=true→q x=true) {y:Nat}:∀ (l:List Nat),y∈l→p y=false→q y=true→l.countP p<l.countP q
 | [],hy,_,_=>by cases hy
 | x::l,hy,h1,h2=>by
  have hle:l.countP p≤l.countP q:=List.countP_mono_left fun z _=>h z
  by_cases e:y=x
  ·subst e;rw [List.countP_cons,List.countP_cons,h1,h2];simp;omega
  ·have:=z6K h l ((List.mem_cons.1 hy).resolve_left e) h1 h2;rw [List.countP_cons,List.countP_cons]
   cases hp:p x
   ·simp;split<;>omega
   ·rw [h x hp];simp;omega
theorem zh7 (rk:Nat→Nat) {n s t:Nat} (hs:s<n) (h:rk s<rk t):below rk n s<below rk n t :=
 z6K (y:=s) (fun x hx=>by simp at hx ⊢;omega) _ (by simpa using hs) (by simp) (by simpa using h)
theorem zh6 (rk:Nat→Nat) (n t:Nat) (ht:t<n):below rk n t<n:=by
 have:=z6K (p:=fun x=>decide (rk x<rk t)) (q:=fun _=>true) (fun _ _=>rfl) (y:=t) (List.range n) (by simpa using ht) (by simp) rfl
 simpa [below] using this
theorem zaT {L:Lk} (hf:Fit L) {s k t:Nat} (hs:s<L.own.length) (h:z6D L s k t):k<L.own.length:=by
 obtain ⟨rk,hk⟩:=hf.rank;have:k+below rk L.own.length t≤below rk L.own.length s:=by
  induction h with
  | refl=>omega
  | step hr ho ih =>
   have h1:=zaS hf hs hr;have h2:=zh7 rk (zaK hf h1 ho) (hk _ h1 ho);omega
 have h2:=zh6 rk _ s hs;omega
theorem z7z {L:Lk} (hf:Fit L):Lev (z8F L (z4U L.own L.ow L.rows)):=by
 have hp:=z28 hf L.own.length;refine ⟨hp.up,fun t ht ho=>?_,fun t ht=>?_⟩
 ·obtain ⟨s,hs,hr,e⟩:=hp.att t ht;obtain ⟨k,hk⟩:=zgc (hr.step ho);have h1:=zaM hf hs hk;have h2:=zaT hf hs hk;have h3:=z5W hf k (L.own.length-k) (nx L t) (zaK hf ht ho);rw [show k+(L.own.length-k)=L.own.length by omega] at h3;show lg (z1l L.ow L.rows L.own L.own.length) (nx L t)≤lg (z1l L.ow L.rows L.own L.own.length) t;rw [e];exact Int.le_trans h3 h1
 ·obtain ⟨s,hs,hr,e⟩:=hp.att t ht;refine ⟨s,hs,?_,e⟩;clear e
  induction hr with
  | refl=>exact .refl
  | step hr' ho ih=>exact .step (L:=z8F L _) (ih (z6x hf hs hr')) ho
theorem zmg {a b:List Int} (hl:a.length=b.length) (h:∀ t,t<a.length→lg a t=lg b t):a=b:=by
 refine List.ext_getElem hl fun i h1 h2=>?_;have:=h i h1
 simpa [lg,List.getD,h1,h2] using this
theorem zcM {L:Lk} (hf:Fit L) {now:List Int} (hl:now.length=L.own.length) (hr:∀ t,t<L.own.length→0≤lg now t∧lg now t<32):Fit (z8F L now) :=
 ⟨hf.n,hl,hf.lo,hf.m,hf.lr,hf.ownr,hr,hf.onr,hf.owr,hf.row,hf.rank⟩
theorem z4H {L:Lk} (h:Go.Proofs.YtgiiidminlhbpaaGreatDoor.Good L):L.now=z4U L.own L.ow L.rows:=by
 have hp:=z28 h.fit L.own.length;have hl:(z4U L.own L.ow L.rows).length=L.own.length:=hp.len;refine zmg (by rw [h.fit.ln,hl]) fun t ht=>?_;rw [h.fit.ln] at ht;have hfw:Fit (z8F L (z4U L.own L.ow L.rows)):=zcM h.fit hl fun t ht=>by
  obtain ⟨s,hs,_,e⟩:=hp.att t ht;have e:lg (z4U L.own L.ow L.rows) t=z4c L s:=e;rw [e];exact h.fit.ownr s hs
 refine Int.le_antisymm ?_ ?_
 ·exact z8p h.fit (K:=z8F L (z4U L.own L.ow L.rows)) rfl rfl rfl h.lev (z7z h.fit) ht
 ·exact z8p hfw (K:=L) rfl rfl rfl (z7z h.fit) h.lev ht
end Go.Lk
