/-
  Parts of the proof: KernTm KernLk KernSd KernRv KernGn KernSh.
-/
import Derived.Test.YtgiiidminlhbpaaGreatDoorKD9
set_option linter.unusedVariables false
set_option linter.unusedSimpArgs false
set_option maxHeartbeats 32000000
set_option maxRecDepth 100000
namespace Go.Proofs.YtgiiidminlhbpaaGreatDoor
open Go.RowKit Go.Sx Go.Dl Go.Lk Go.Rq Go.Au
section
variable {c:Cf} {K:Kn} {who:Nat} {i:Ins}
theorem z3W (e:Int) (he:K.timerE c who i=e) (h0:e≠0):K.timer c who i=K.refuse c who i e:=by
 unfold Kn.timer;dsimp only;rw [he,if_pos h0]
theorem zgH (he:K.timerE c who i=0) (ho:i.op=29):K.timer c who i=(((K.wS (z33 (128+i.k) K.S)).wS (z5B (z33 (128+i.k) K.S) (128+i.k) (K.reg who i.c))).put who i.a 0).tell c 19 who i.k (K.reg who i.c):=by
 unfold Kn.timer;dsimp only;rw [he,if_neg (by simp),if_pos ho,if_pos ho];rfl
theorem zgI (he:K.timerE c who i=0) (ho:i.op=30):K.timer c who i=((K.wS (z33 (128+i.k) K.S)).put who i.a 0).tell c 19 who i.k 0:=by
 unfold Kn.timer;dsimp only;rw [he,if_neg (by simp),if_neg (by omega),if_neg (by omega)];rfl
theorem z8D (h:(c.timers.length:Int)≤i.k):K.timerE c who i=15:=by unfold Kn.timerE;exact if_pos h
theorem zcq (h:¬ (c.timers.length:Int)≤i.k) (ho:i.op=29) (hz:K.reg who i.c=0):K.timerE c who i=1:=by unfold Kn.timerE;rw [if_neg h,if_pos ⟨ho,hz⟩]
theorem z8E (h:¬ (c.timers.length:Int)≤i.k) (ho:¬ (i.op=29∧K.reg who i.c=0)) (hh:has K.S (128+i.k)):K.timerE c who i=0:=by unfold Kn.timerE;rw [if_neg h,if_neg ho,if_pos hh]
theorem zes (h:¬ (c.timers.length:Int)≤i.k) (ho:i.op=30) (hh:¬ has K.S (128+i.k)):K.timerE c who i=8:=by unfold Kn.timerE;rw [if_neg h,if_neg (by omega),if_neg hh,if_pos ho]
theorem z8C (h:¬ (c.timers.length:Int)≤i.k) (ho:i.op=29) (hz:¬ K.reg who i.c=0) (hh:¬ has K.S (128+i.k)):K.timerE c who i=if K.noRoom c then 7 else 0:=by unfold Kn.timerE;rw [if_neg h,if_neg (by omega),if_neg hh,if_neg (by omega)]
end
theorem zP {b:Nat} {x:Fx} {c:Cf} {cb co who:Nat} (h:z4b b x c cb co who):z3u c who:=by
 rcases h.is with ⟨a,b,_,_⟩ | ⟨a,b,_,_⟩
 ·exact .inl ⟨a,b⟩
 ·exact .inr ⟨a,b⟩
theorem zcu {K:Kn} {S:List Ck} (h:S=K.S):K.wS S=K:=by subst h;rfl
theorem zbS (b:Nat) (x:Fx) (c:Cf) (K:Kn) (who cb co:Nat) (hcx:z4b b x c cb co who) (i:Ins) (hi:zI i) (h:Inv c K) (ho:i.op=30) (w0 w:World) (F:HP) (hs:Sat w0 w (knP b x c K*F)) (hl:K.told.length≤99990) :
  Calls Tryz.prog 118 #[.pointer (some ⟨b,0,none⟩),.int .i64 who,.pointer (some ⟨cb,co,none⟩),z22 i] w (zp w0 (.tuple #[]) (knP b x c (K.timer c who i)*F)):=by
 have cf:=h.cf;have hnm:=cf.nm;have hw80:=z25 h (zP hcx);have hRf:=hid (fun (e:Int) (he:0≤e∧e≤16) (w:World) (G:HP) (hs:Sat w0 w (knP b x c K*G))=>zV b x c K who cb co hcx i hi e he w0 w G hs cf hw80 (by omega));obtain ⟨k,hk⟩:=Int.eq_ofNat_of_zero_le (show 0≤i.k from hi.k.1);have hk32:(k:Int)<4294967296:=by rw [← hk];exact hi.k.2
 have u1:IntKind.u64.wrap (k:Int)=k:=by rw [IntKind.wrap_u64];omega
 have u2:IntKind.u64.wrap (c.timers.length:Int)=c.timers.length:=by rw [IntKind.wrap_u64];omega
 have u5:IntKind.i64.wrap (k:Int)=k:=by rw [IntKind.wrap_i64];omega
 have u6:IntKind.i64.wrap (128+(k:Int))=128+(k:Int):=by rw [IntKind.wrap_i64];omega
 have hC:=hid (fun w G hs=>z6q b x c K w0 w G hs h.S (128+k))
 by_cases h1:(c.timers.length:Int)≤i.k
 ·rw [z3W 15 (z8D h1) (by decide)];have d0:decide (c.timers.length≤k)=true:=by rw [hk] at h1;simp;omega
  have hR:=hid (hRf.out 15 (by decide));clear hRf hi h cf h1 hl hC;obtain ⟨op,a,b',c',d,k'⟩:=i;have hk:k'=k:=hk;have ho:op=30:=ho;subst hk ho
  go_enter Tryz.func118,Tryz.ntmps118
  go_wp2_with fail;go_quiet (fail);go_wp2_with fail;refine (hR.out _ _ own).mono ?_;rintro en w1 ⟨rfl,hs1⟩;go_wp2_with fail
  go_end0
  exact ⟨rfl,z3⟩
 ·have d0:decide (c.timers.length≤k)=false:=by rw [hk] at h1;simp;omega
  by_cases hh:has K.S (128+i.k)
  ·have hE:=z8E (K:=K) (who:=who) h1 (by omega) hh;have hx:=hid (zgI hE ho);have dh:decide (has K.S (128+(k:Int)))=true:=by rw [← hk];exact decide_eq_true hh
   obtain ⟨a,ha⟩:=Int.eq_ofNat_of_zero_le (show 0≤i.a from hi.a.1);have ha8:a<8:=by have:=hi.a.2;omega
   haveI:Lt a 8:=⟨ha8⟩;have d2:decide (a<8)=true:=decide_eq_true ha8;have i2:(a:Int)<8:=by omega
   have hT:=hid (fun (kI:Int) (hk:kI=19) (w:World) (G:HP) (hs:Sat w0 w (knP b x c ((K.wS (z33 (128+(k:Int)) K.S)).put who a 0)*G))=>zN b x c _ 19 kI hk who k 0 w0 w G hs cf (by decide) ⟨by omega,by omega⟩ ⟨by omega,by omega⟩ ⟨by decide,by decide⟩ (by rw [zQ];show K.told.length≤100000;omega));rw [hk,ha] at hx;rw [hx.out];clear hRf hi h cf h1 hl hx hE hh;obtain ⟨op,a',b',c',d,k'⟩:=i;have hk:k'=k:=hk;have ha:a'=a:=ha;have ho:op=30:=ho;subst hk ha ho
   go_enter Tryz.func118,Tryz.ntmps118
   go_wp2_with fail;go_quiet (fail);go_wp2_with fail;refine (hC.out _ _ own).mono ?_;rintro en w1 ⟨rfl,hs1⟩;go_wp2_with fail;refine z9 (w0:=w0) ?_;intro wx hsx;go_still_tail 6,(by kernel_rfl);change wpList _ _ _ _ _ wx.drew;go_wp2_with fail;refine (hT.out _ rfl _ _ z6).mono ?_;rintro en w2 ⟨rfl,hs2⟩;go_wp2_with fail
   go_end0
   exact ⟨rfl,z3⟩
  ·rw [z3W 8 (zes h1 ho hh) (by decide)];have dh:decide (has K.S (128+(k:Int)))=false:=by rw [← hk];exact decide_eq_false hh
   rw [zcu (z6i (by rw [← hk];exact hh))] at hC;have hR:=hid (hRf.out 8 (by decide));clear hRf hi h cf h1 hl hh;obtain ⟨op,a,b',c',d,k'⟩:=i;have hk:k'=k:=hk;have ho:op=30:=ho;subst hk ho
   go_enter Tryz.func118,Tryz.ntmps118
   go_wp2_with fail;go_quiet (fail);go_wp2_with fail;refine (hC.out _ _ own).mono ?_;rintro en w1 ⟨rfl,hs1⟩;go_wp2_with fail;refine (hR.out _ _ z6).mono ?_;rintro en w2 ⟨rfl,hs2⟩;go_wp2_with fail
   go_end0
   exact ⟨rfl,z3⟩
theorem zbR (b:Nat) (x:Fx) (c:Cf) (K:Kn) (who cb co:Nat) (hcx:z4b b x c cb co who) (i:Ins) (hi:zI i) (h:Inv c K) (ho:i.op=29) (w0 w:World) (F:HP) (hs:Sat w0 w (knP b x c K*F)) (hl:K.told.length≤99990) :
  Calls Tryz.prog 118 #[.pointer (some ⟨b,0,none⟩),.int .i64 who,.pointer (some ⟨cb,co,none⟩),z22 i] w (zp w0 (.tuple #[]) (knP b x c (K.timer c who i)*F)):=by
 have cf:=h.cf;have hnm:=cf.nm;have hw80:=z25 h (zP hcx);have hRf:=hid (fun (e:Int) (he:0≤e∧e≤16) (w:World) (G:HP) (hs:Sat w0 w (knP b x c K*G))=>zV b x c K who cb co hcx i hi e he w0 w G hs cf hw80 (by omega));obtain ⟨k,hk⟩:=Int.eq_ofNat_of_zero_le (show 0≤i.k from hi.k.1);have hk32:(k:Int)<4294967296:=by rw [← hk];exact hi.k.2
 have u1:IntKind.u64.wrap (k:Int)=k:=by rw [IntKind.wrap_u64];omega
 have u2:IntKind.u64.wrap (c.timers.length:Int)=c.timers.length:=by rw [IntKind.wrap_u64];omega
 have u5:IntKind.i64.wrap (k:Int)=k:=by rw [IntKind.wrap_i64];omega
 have u6:IntKind.i64.wrap (128+(k:Int))=128+(k:Int):=by rw [IntKind.wrap_i64];omega
 have hC:=hid (fun w G hs=>z6q b x c K w0 w G hs h.S (128+k));obtain ⟨n,hn⟩:=Int.eq_ofNat_of_zero_le (show 0≤i.c from hi.c.1);have hn8:n<8:=by have:=hi.c.2;omega
 haveI:Lt n 8:=⟨hn8⟩;have d3:decide (n<8)=true:=decide_eq_true hn8;have i3:(n:Int)<8:=by omega
 have hrr:=z0K h (zP hcx) n;have hr0:=hrr.1;have hr1:=hrr.2;have u7:IntKind.i64.wrap (K.reg who n)=K.reg who n:=by rw [IntKind.wrap_i64];omega
 by_cases h1:(c.timers.length:Int)≤i.k
 ·rw [z3W 15 (z8D h1) (by decide)];have d0:decide (c.timers.length≤k)=true:=by rw [hk] at h1;simp;omega
  have hR:=hid (hRf.out 15 (by decide));clear hRf hi h cf h1 hl hC hrr;obtain ⟨op,a,b',c',d,k'⟩:=i;have hk:k'=k:=hk;have hn:c'=n:=hn;have ho:op=29:=ho;subst hk ho hn
  go_enter Tryz.func118,Tryz.ntmps118
  go_wp2_with fail;go_quiet (fail);go_wp2_with fail;go_quiet (fail);go_wp2_with fail;refine (hR.out _ _ own).mono ?_;rintro en w1 ⟨rfl,hs1⟩;go_wp2_with fail
  go_end0
  exact ⟨rfl,z3⟩
 ·have d0:decide (c.timers.length≤k)=false:=by rw [hk] at h1;simp;omega
  by_cases hz:K.reg who i.c=0
  ·rw [z3W 1 (zcq h1 ho hz) (by decide)];have q:K.reg who n=0:=by rw [← hn];exact hz
   have hR:=hid (hRf.out 1 (by decide));clear hRf hi h cf h1 hl hC hrr hz hr0 hr1 u7;obtain ⟨op,a,b',c',d,k'⟩:=i;have hk:k'=k:=hk;have hn:c'=n:=hn;have ho:op=29:=ho;subst hk ho hn
   go_enter Tryz.func118,Tryz.ntmps118
   go_wp2_with fail;go_quiet (fail);go_wp2_with fail;go_quiet (fail);go_wp2_with fail;refine (hR.out _ _ own).mono ?_;rintro en w1 ⟨rfl,hs1⟩;go_wp2_with fail
   go_end0
   exact ⟨rfl,z3⟩
  ·have q:(K.reg who n==0)=false:=by rw [← hn];simp [hz]
   have hno:¬ (i.op=29∧K.reg who i.c=0):=fun a=>hz a.2
   by_cases he:K.timerE c who i=0
   ·have hx:=hid (zgH he ho);obtain ⟨a,ha⟩:=Int.eq_ofNat_of_zero_le (show 0≤i.a from hi.a.1);have ha8:a<8:=by have:=hi.a.2;omega
    haveI:Lt a 8:=⟨ha8⟩;have d2:decide (a<8)=true:=decide_eq_true ha8;have i2:(a:Int)<8:=by omega
    have hP:=hid (fun (w:World) (G:HP) (hs:Sat w0 w (knP b x c (K.wS (z33 (128+(k:Int)) K.S))*G))=>zdV b x c _ w0 w G hs (zcm h.S _) (128+k) (K.reg who n));have hT:=hid (fun (kI:Int) (hk:kI=19) (w:World) (G:HP) (hs:Sat w0 w (knP b x c (((K.wS (z33 (128+(k:Int)) K.S)).wS (z5B (z33 (128+(k:Int)) K.S) (128+k) (K.reg who n))).put who a 0)*G))=>zN b x c _ 19 kI hk who k (K.reg who n) w0 w G hs cf (by decide) ⟨by omega,by omega⟩ ⟨by omega,by omega⟩ hrr (by rw [zQ];show K.told.length≤100000;omega));rw [hk,ha,hn] at hx;rw [hx.out]
    by_cases hh:has K.S (128+i.k)
    ·have dh:decide (has K.S (128+(k:Int)))=true:=by rw [← hk];exact decide_eq_true hh
     clear hRf hi h cf h1 hl hx he hh hrr hr0 hr1 hz hno;obtain ⟨op,a',b',c',d,k'⟩:=i;have hk:k'=k:=hk;have ha:a'=a:=ha;have hn:c'=n:=hn;have ho:op=29:=ho;subst hk ha ho hn
     go_enter Tryz.func118,Tryz.ntmps118
     go_wp2_with fail;go_quiet (fail);go_wp2_with fail;go_quiet (fail);go_wp2_with fail;refine (hC.out _ _ own).mono ?_;rintro en w1 ⟨rfl,hs1⟩;go_wp2_with fail;refine z9 (w0:=w0) ?_;intro wx hsx;go_still_tail 10,(by kernel_rfl);change wpList _ _ _ _ _ wx.drew;go_wp2_with fail;refine (hP.out _ _ z6).mono ?_;rintro en w2 ⟨rfl,hs2⟩;go_wp2_with fail;refine z9 (w0:=w0) ?_;intro wx hsx;go_still_tail 6,(by kernel_rfl);change wpList _ _ _ _ _ wx.drew;go_wp2_with fail;refine (hT.out _ rfl _ _ z6).mono ?_;rintro en w3 ⟨rfl,hs3⟩;go_wp2_with fail
     go_end0
     exact ⟨rfl,z3⟩
    ·have dh:decide (has K.S (128+(k:Int)))=false:=by rw [← hk];exact decide_eq_false hh
     have hnr:K.noRoom c=false:=by rw [z8C h1 ho hz hh] at he;cases g:K.noRoom c<;>simp_all
     have hF:=hid (fun (w:World) (G:HP) (hs:Sat w0 w (knP b x c (K.wS (z33 (128+(k:Int)) K.S))*G))=>z8l b x c _ w0 w G hs (zcm h.S _) false (by rw [zcu (z6i (by rw [← hk];exact hh))];exact hnr));clear hRf hi h cf h1 hl hx he hh hrr hr0 hr1 hz hno hnr;obtain ⟨op,a',b',c',d,k'⟩:=i;have hk:k'=k:=hk;have ha:a'=a:=ha;have hn:c'=n:=hn;have ho:op=29:=ho;subst hk ha ho hn
     go_enter Tryz.func118,Tryz.ntmps118
     go_wp2_with fail;go_quiet (fail);go_wp2_with fail;go_quiet (fail);go_wp2_with fail;refine (hC.out _ _ own).mono ?_;rintro en w1 ⟨rfl,hs1⟩;go_wp2_with fail;refine (hF.out _ _ z6).mono ?_;rintro en w2 ⟨rfl,hs2⟩;go_wp2_with fail;refine z9 (w0:=w0) ?_;intro wx hsx;go_still_tail 10,(by kernel_rfl);change wpList _ _ _ _ _ wx.drew;go_wp2_with fail;refine (hP.out _ _ z6).mono ?_;rintro en w3 ⟨rfl,hs3⟩;go_wp2_with fail;refine z9 (w0:=w0) ?_;intro wx hsx;go_still_tail 6,(by kernel_rfl);change wpList _ _ _ _ _ wx.drew;go_wp2_with fail;refine (hT.out _ rfl _ _ z6).mono ?_;rintro en w4 ⟨rfl,hs4⟩;go_wp2_with fail
     go_end0
     exact ⟨rfl,z3⟩
   ·have hh:¬ has K.S (128+i.k):=fun g=>he (z8E h1 hno g);have hE:=z8C h1 ho hz hh;have hnr:K.noRoom c=true:=by rw [hE] at he;cases g:K.noRoom c<;>simp_all
    rw [if_pos hnr] at hE;rw [z3W 7 hE (by decide)];have dh:decide (has K.S (128+(k:Int)))=false:=by rw [← hk];exact decide_eq_false hh
    rw [zcu (z6i (by rw [← hk];exact hh))] at hC;have hF:=hid (fun w G hs=>z8l b x c _ w0 w G hs h.S true hnr);have hR:=hid (hRf.out 7 (by decide));clear hRf hi h cf h1 hl hE he hh hrr hr0 hr1 hz hno hnr;obtain ⟨op,a',b',c',d,k'⟩:=i;have hk:k'=k:=hk;have hn:c'=n:=hn;have ho:op=29:=ho;subst hk ho hn
    go_enter Tryz.func118,Tryz.ntmps118
    go_wp2_with fail;go_quiet (fail);go_wp2_with fail;go_quiet (fail);go_wp2_with fail;refine (hC.out _ _ own).mono ?_;rintro en w1 ⟨rfl,hs1⟩;go_wp2_with fail;refine (hF.out _ _ z6).mono ?_;rintro en w2 ⟨rfl,hs2⟩;go_wp2_with fail;refine (hR.out _ _ z6).mono ?_;rintro en w3 ⟨rfl,hs3⟩;go_wp2_with fail
    go_end0
    exact ⟨rfl,z3⟩
theorem zfH {L:Lk} (hg:Good L) {t m:Int} (h:¬ (z0f L t m).2.1=0):z1B L t m=L:=by
 unfold z1B
 rcases z1C L hg t m with ⟨e,_⟩ | ⟨_,_,_,_,_,_,k⟩ | ⟨_,_,_,_,_,_,_,_,k⟩
 ·rw [e,← z4H hg];rfl
 ·rw [k] at h;exact absurd rfl h
 ·rw [k] at h;exact absurd rfl h
theorem zcs {L:Lk} (hg:Good L) {t m:Int} (h:¬ (zi L t m).2.1=0):zE L t m=L:=by
 unfold zE
 rcases z0D L hg t m with ⟨e,_⟩ | ⟨_,_,_,_,_,_,k⟩ | ⟨_,_,_,_,_,_,_,k⟩
 ·rw [e,← z4H hg];rfl
 ·rw [k] at h;exact absurd rfl h
 ·rw [k] at h;exact absurd rfl h
theorem zgP {K:Kn} {L:Lk} (h:L=K.L):K.wL L=K:=by subst h;rfl
section
variable {c:Cf} {K:Kn} {t:Nat} {i:Ins}
theorem zhK (he:¬ (z0f K.L t i.k).2.1=0):K.lock c t i=K.refuse c t i (z0f K.L t i.k).2.1:=by unfold Kn.lock;dsimp only;exact if_pos he
theorem zhL (he:(z0f K.L t i.k).2.1=0) (hh:(z0f K.L t i.k).1=true):K.lock c t i=((K.wL (z1B K.L t i.k)).put t i.a 0).tell c 12 t i.k 0:=by unfold Kn.lock;dsimp only;rw [if_neg (by simp [he]),if_pos hh];rfl
theorem zfJ (he:(z0f K.L t i.k).2.1=0) (hh:(z0f K.L t i.k).1=false):K.lock c t i=((K.wL (z1B K.L t i.k)).hold c t 3 (32+i.k) i).relevel c:=by unfold Kn.lock;dsimp only;rw [if_neg (by simp [he]),if_neg (by simp [hh])];rfl
theorem zet (he:¬ (zi K.L t i.k).2.1=0):K.unlock c t i=K.refuse c t i (zi K.L t i.k).2.1:=by unfold Kn.unlock;dsimp only;exact if_pos he
theorem zgM (he:(zi K.L t i.k).2.1=0):K.unlock c t i=(((K.wL (zE K.L t i.k)).put t i.a 0).handed c t i.k (zi K.L t i.k).1).relevel c:=by unfold Kn.unlock;dsimp only;rw [if_neg (by simp [he])];rfl
theorem z7S (h:Inv c K) (t m:Int):(zi K.L t m).1=255∨∃ tn:Nat,(zi K.L t m).1=tn∧tn<c.ts.length∧(K.T tn).st=3:=by
 rcases z0D K.L h.L t m with ⟨_,_,k⟩ | ⟨_,_,_,_,_,_,k⟩ | ⟨a,b,d,e,f,g,i,k⟩
 ·exact .inl k
 ·rw [k];exact .inl rfl
 ·rw [k];obtain ⟨h1,h2,h3⟩:=z4X h.L (m:=m.toNat) (by omega) i;obtain ⟨n,hn⟩:=Int.eq_ofNat_of_zero_le h1;refine .inr ⟨n,hn,by rw [hn,h.Ln] at h2;omega,?_⟩;rw [hn] at h3 h2;exact h.Lw n (by rw [h.Ln] at h2;omega) (by rw [show ((n:Int)).toNat=n by omega] at h3;rw [h3];omega)
end
theorem zkd (b:Nat) (x:Fx) (c:Cf) (K:Kn) (t cb co:Nat) (hcx:z4b b x c cb co t) (i:Ins) (hi:zI i) (h:Inv c K) (ht:t<c.ts.length) (hc:z20 c K t) (hd:i.d=0) (w0 w:World) (F:HP) (hs:Sat w0 w (knP b x c K*F)) (hl:K.told.length≤99800) :
  Calls Tryz.prog 124 #[.pointer (some ⟨b,0,none⟩),.int .i64 t,.pointer (some ⟨cb,co,none⟩),z22 i] w (zp w0 (.tuple #[]) (knP b x c (K.lock c t i)*F)):=by
 have hnt:=h.cf.nt;have cf:=h.cf;obtain ⟨k,hk⟩:=Int.eq_ofNat_of_zero_le (show 0≤i.k from hi.k.1);have hk32:(k:Int)<4294967296:=by rw [← hk];exact hi.k.2
 have u5:IntKind.i64.wrap (k:Int)=k:=by rw [IntKind.wrap_i64];omega
 have u6:IntKind.i64.wrap (32+(k:Int))=32+(k:Int):=by rw [IntKind.wrap_i64];omega
 have hL:=hid (fun w G hs=>zmb b x c K w0 w G hs h.L t k)
 by_cases he:(z0f K.L t i.k).2.1=0
 ·have hm:=zbZ h.L he;have e0:(z0f K.L t k).2.1=0:=by rw [← hk];exact he
  by_cases hh:(z0f K.L t i.k).1=true
  ·have hx:=hid (zhL (c:=c) he hh);have e1:(z0f K.L t k).1=true:=by rw [← hk];exact hh
   obtain ⟨a,ha⟩:=Int.eq_ofNat_of_zero_le (show 0≤i.a from hi.a.1);have ha8:a<8:=by have:=hi.a.2;omega
   haveI:Lt a 8:=⟨ha8⟩;have d2:decide (a<8)=true:=decide_eq_true ha8;have i2:(a:Int)<8:=by omega
   have hT:=hid (fun (kI:Int) (hk:kI=12) (w:World) (G:HP) (hs:Sat w0 w (knP b x c ((K.wL (z1B K.L t k)).put t a 0)*G))=>zN b x c _ 12 kI hk t k 0 w0 w G hs cf (by decide) ⟨by omega,by omega⟩ ⟨by omega,by omega⟩ ⟨by decide,by decide⟩ (by rw [zQ];show K.told.length≤100000;omega));rw [hk,ha] at hx;rw [hx.out];clear hi h cf hl hx he hh hm hc hd;obtain ⟨op,a',b',c',d,k'⟩:=i;have hk:k'=k:=hk;have ha:a'=a:=ha;subst hk ha
   go_enter Tryz.func124,Tryz.ntmps124
   go_wp2_with fail;refine (hL.out _ _ own).mono ?_;rintro en w1 ⟨rfl,hs1⟩;go_wp2_with fail;refine z9 (w0:=w0) ?_;intro wx hsx;go_still_tail 6,(by kernel_rfl);change wpList _ _ _ _ _ wx.drew;go_wp2_with fail;refine (hT.out _ rfl _ _ z6).mono ?_;rintro en w2 ⟨rfl,hs2⟩;go_wp2_with fail
   go_end0
   exact ⟨rfl,z3⟩
  ·have hh:(z0f K.L t i.k).1=false:=by simpa using hh
   have hx:=hid (zfJ (c:=c) he hh);have e1:(z0f K.L t k).1=false:=by rw [← hk];exact hh
   have h2:Inv c ((K.wL (z1B K.L t i.k)).hold c t 3 (32+i.k) i):=z5Q h ht hc hd he;have hH:=hid (fun (w:World) (G:HP) (hs:Sat w0 w (knP b x c (K.wL (z1B K.L t k))*G))=>z3F b x c (K.wL (z1B K.L t k)) t 3 (32+k) i hi (by omega) cf ht ⟨by omega,by omega⟩ w0 w G hs (by show K.told.length≤100000;omega));have hln:=(zH.pre (z2L (c:=c) (K:=K.wL (z1B K.L t i.k)) (t:=t) (status:=3) (on:=32+i.k) (i:=i) cf (by omega) (by omega)) rfl rfl rfl:zH c 0 1 0 K _).len;have hV:=hid (fun (w:World) (G:HP) (hs:Sat w0 w (knP b x c ((K.wL (z1B K.L t i.k)).hold c t 3 (32+i.k) i)*G))=>z7c b x c _ h2 w0 w G hs (by omega));rw [hk] at hx hV;rw [hx.out];clear hi h cf hl hx he hh hm hc hd h2 hln;obtain ⟨op,a',b',c',d,k'⟩:=i;have hk:k'=k:=hk;subst hk
   go_enter Tryz.func124,Tryz.ntmps124
   go_wp2_with fail;refine (hL.out _ _ own).mono ?_;rintro en w1 ⟨rfl,hs1⟩;go_wp2_with fail;refine (hH.out _ _ z6).mono ?_;rintro en w2 ⟨rfl,hs2⟩;go_wp2_with fail;refine (hV.out _ _ z6).mono ?_;rintro en w3 ⟨rfl,hs3⟩;go_wp2_with fail
   go_end0
   exact ⟨rfl,z3⟩
 ·have hx:=hid (zhK (c:=c) he);have esame:=zgP (K:=K) (zfH h.L he);have hR:=hid (fun (w:World) (G:HP) (hs:Sat w0 w (knP b x c K*G))=>zV b x c K t cb co hcx i hi _ (z7i K.L t i.k) w0 w G hs cf (by omega) (by omega));rw [hk] at hx esame hR he;rw [esame] at hL;obtain ⟨z,hz⟩:∃ z,z=(z0f K.L t k).2.1:=⟨_,rfl⟩;have z1:(z != 0)=true:=by rw [hz];simpa using he
  rw [← hz] at hx hR hL;rw [hx.out];clear hi h cf hl hx he hc hd esame hz;obtain ⟨op,a',b',c',d,k'⟩:=i;have hk:k'=k:=hk;subst hk
  go_enter Tryz.func124,Tryz.ntmps124
  go_wp2_with fail;refine (hL.out _ _ own).mono ?_;rintro en w1 ⟨rfl,hs1⟩;go_wp2_with fail;refine (hR.out _ _ z6).mono ?_;rintro en w2 ⟨rfl,hs2⟩;go_wp2_with fail
  go_end0
  exact ⟨rfl,z3⟩
theorem zfv (b:Nat) (x:Fx) (c:Cf) (K:Kn) (t cb co:Nat) (hcx:z4b b x c cb co t) (i:Ins) (hi:zI i) (h:Inv c K) (ht:t<c.ts.length) (w0 w:World) (F:HP) (hs:Sat w0 w (knP b x c K*F)) (hl:K.told.length≤99800) :
  Calls Tryz.prog 125 #[.pointer (some ⟨b,0,none⟩),.int .i64 t,.pointer (some ⟨cb,co,none⟩),z22 i] w (zp w0 (.tuple #[]) (knP b x c (K.unlock c t i)*F)):=by
 have hnt:=h.cf.nt;have cf:=h.cf;obtain ⟨k,hk⟩:=Int.eq_ofNat_of_zero_le (show 0≤i.k from hi.k.1);have hk32:(k:Int)<4294967296:=by rw [← hk];exact hi.k.2
 have u5:IntKind.i64.wrap (k:Int)=k:=by rw [IntKind.wrap_i64];omega
 have hL:=hid (fun w G hs=>zd4 b x c K w0 w G hs h.L t k)
 by_cases he:(zi K.L t i.k).2.1=0
 ·have hm:=zbj h.L.fit.m he;have e0:(zi K.L t k).2.1=0:=by rw [← hk];exact he
  have hx:=hid (zgM (c:=c) he);obtain ⟨a,ha⟩:=Int.eq_ofNat_of_zero_le (show 0≤i.a from hi.a.1);have ha8:a<8:=by have:=hi.a.2;omega
  haveI:Lt a 8:=⟨ha8⟩;have d2:decide (a<8)=true:=decide_eq_true ha8;have i2:(a:Int)<8:=by omega
  have h1:=z5S h ht (i:=i);have ho:=z2q h.L t i.k;have h2:Inv c { K with L:=zE K.L t i.k }:=zah h (z1N h.L t i.k) (by rw [ho.1]) ho.2 fun u hu e=>by
   rcases z2b h.L t i.k e with f | f
   ·exact h.Lw u hu f.1
   ·exact h.Lw u hu f.1
  have h3:=z0v h2 (zey h ht) i.a (v:=0) ⟨by simp,by simp⟩;have g1:=(z4n h3 (t:=t) (by omega) hm (z4v h t i.k)).len;rw [zQ] at g1;have g1:((({ K with L:=zE K.L t i.k }).put t i.a 0).handed c t i.k (zi K.L t i.k).1).told.length≤K.told.length+3:=g1;have hw:(zi K.L t i.k).1=255∨∃ tn:Nat,(zi K.L t i.k).1=tn∧z4A c (({ K with L:=zE K.L t i.k }).put t i.a 0) tn:=by
   rcases z7S h t i.k with e | ⟨tn,e1,e2,e3⟩
   ·exact .inl e
   ·refine .inr ⟨tn,e1,z2c h3 e2 ?_⟩;rw [(z1b i.a 0 tn).1];have e3:({ K with L:=zE K.L t i.k }:Kn).T tn=K.T tn:=rfl;rw [e3];omega
  have hH:=hid (fun (w:World) (G:HP) (hs:Sat w0 w (knP b x c (({ K with L:=zE K.L t i.k }).put t i.a 0)*G))=>zd0 b x c _ t i.k _ cf (by omega) hm hw w0 w G hs (by rw [zQ];show K.told.length≤99990;omega));have hV:=hid (fun (w:World) (G:HP) (hs:Sat w0 w (knP b x c ((({ K with L:=zE K.L t i.k }).put t i.a 0).handed c t i.k (zi K.L t i.k).1)*G))=>z7c b x c _ h1 w0 w G hs (by omega));rw [hk,ha] at hx hH hV;rw [hx.out];have hH:Hid (∀ (w:World) (G:HP),Sat w0 w (knP b x c ((K.wL (zE K.L t k)).put t a 0)*G)→Calls Tryz.prog 122 #[.pointer (some ⟨b,0,none⟩),.int .i64 t,.int .i64 k,.int .i64 (zi K.L t k).1] w (zp w0 (.tuple #[]) (knP b x c (((K.wL (zE K.L t k)).put t a 0).handed c t k (zi K.L t k).1)*G))):=hH;have hV:Hid (∀ (w:World) (G:HP),Sat w0 w (knP b x c (((K.wL (zE K.L t k)).put t a 0).handed c t k (zi K.L t k).1)*G)→Calls Tryz.prog 123 #[.pointer (some ⟨b,0,none⟩)] w (zp w0 (.tuple #[]) (knP b x c ((((K.wL (zE K.L t k)).put t a 0).handed c t k (zi K.L t k).1).relevel c)*G))):=hV;clear hi h cf hl hx he hm h1 h2 h3 g1 hw ho;obtain ⟨op,a',b',c',d,k'⟩:=i;have hk:k'=k:=hk;have ha:a'=a:=ha;subst hk ha
  go_enter Tryz.func125,Tryz.ntmps125
  go_wp2_with fail;refine z9 (w0:=w0) ?_;intro wx hsx;clear hs;refine zj (fun w'=>w'.cell? ⟨b,543,none⟩=some (.pointer (some ⟨x.lk,0,none⟩))∧w'.cell? ⟨w.heap.size,5,none⟩=some (.int .u32 k)) [(0,true),(1,true),(2,true),(3,true),(4,true),(5,true),(6,true),(7,true),(8,false),(9,true),(10,true),(11,true),(12,true),(13,true)] (by kernel_rfl) (by kernel_rfl) (fun _ _ _ _ h=>h) ⟨z4,z4⟩ ?_
  iterate 8 (first | refine zsR ?_ | refine zsQ ?_)
  refine z29 rfl (by rfl) (fun K hK=>?_);go_wp2_with fail;refine (hL.out _ _ own).mono ?_;rintro en w1 ⟨rfl,hs1⟩;go_wp2_with fail;refine ⟨⟨z4,z4⟩,?_⟩
  iterate 5 (first | refine zsR ?_ | refine zsQ ?_)
  refine zB ?_;go_wp2_with fail;refine z9 (w0:=w0) ?_;intro wx hsx;go_still_tail 6,(by kernel_rfl);change wpList _ _ _ _ _ wx.drew;go_wp2_with fail;refine (hH.out _ _ z6).mono ?_;rintro en w2 ⟨rfl,hs2⟩;go_wp2_with fail;refine (hV.out _ _ z6).mono ?_;rintro en w3 ⟨rfl,hs3⟩;go_wp2_with fail
  go_end0
  exact ⟨rfl,z3⟩
 ·have hx:=hid (zet (c:=c) he);have esame:=zgP (K:=K) (zcs h.L he);have hR:=hid (fun (w:World) (G:HP) (hs:Sat w0 w (knP b x c K*G))=>zV b x c K t cb co hcx i hi _ (z55 K.L t i.k) w0 w G hs cf (by omega) (by omega));rw [hk] at hx esame hR he;rw [esame] at hL;obtain ⟨z,hz⟩:∃ z,z=(zi K.L t k).2.1:=⟨_,rfl⟩;have z1:(z != 0)=true:=by rw [hz];simpa using he
  rw [← hz] at hx hR hL;rw [hx.out];clear hi h cf hl hx he esame hz;obtain ⟨op,a',b',c',d,k'⟩:=i;have hk:k'=k:=hk;subst hk
  go_enter Tryz.func125,Tryz.ntmps125
  go_wp2_with fail;refine z9 (w0:=w0) ?_;intro wx hsx;clear hs;refine zj (fun w'=>w'.cell? ⟨b,543,none⟩=some (.pointer (some ⟨x.lk,0,none⟩))∧w'.cell? ⟨w.heap.size,5,none⟩=some (.int .u32 k)) [(0,true),(1,true),(2,true),(3,true),(4,true),(5,true),(6,true),(7,true),(8,false),(9,true),(10,true),(11,true),(12,true),(13,true)] (by kernel_rfl) (by kernel_rfl) (fun _ _ _ _ h=>h) ⟨z4,z4⟩ ?_
  iterate 8 (first | refine zsR ?_ | refine zsQ ?_)
  refine z29 rfl (by rfl) (fun K hK=>?_);go_wp2_with fail;refine (hL.out _ _ own).mono ?_;rintro en w1 ⟨rfl,hs1⟩;go_wp2_with fail;refine ⟨⟨z4,z4⟩,?_⟩
  iterate 5 (first | refine zsR ?_ | refine zsQ ?_)
  refine zB ?_;go_wp2_with fail;refine (hR.out _ _ z6).mono ?_;rintro en w2 ⟨rfl,hs2⟩;go_wp2_with fail
  go_end0
  exact ⟨rfl,z3⟩
theorem zgz {q:Mq} (e:¬ q.sendE=0):q.sendE=7∧∀ lv v,q.send lv v=q:=by
 unfold Mq.sendE at e ⊢
 split at e
 ·exact absurd rfl e
 ·rename_i hr
  split at e
  ·rename_i hn
   rw [if_neg hr,if_pos hn];exact ⟨rfl,fun lv v=>by unfold Mq.send;rw [if_neg hr,if_pos hn]⟩
  ·exact absurd rfl e
theorem zfS {K:Kn} {s:Nat} {v:Mq} (h:v=K.ml s):K.wMl (upd K.ml s v)=K:=by rw [h,z10];rfl
theorem zg9 {K:Kn} {u n:Nat} {v:Int} (h:u<64):K.put u n v=K.wReg u n v:=by unfold Kn.put;rw [if_pos h];rfl
def Kn.sent (K:Kn) (c:Cf) (who:Nat) (q a:Nat) (v:Int):Kn:=((K.wMl (upd K.ml q ((K.ml q).send K.L.now v))).put who a 0).tell c 16 who q v
section
variable {c:Cf} {K:Kn} {who:Nat} {i:Ins} {q a:Nat}
theorem zix (e:¬ (K.ml i.k.toNat).sendE=0) (hd:i.d=1):K.send c who i=K.refuse c who i (K.ml i.k.toNat).sendE:=by
 unfold Kn.send;dsimp only;rw [if_pos e,if_pos hd]
theorem zgy (e:¬ (K.ml i.k.toNat).sendE=0) (hd:¬ i.d=1) (h0:K.holdE c who i=0):K.send c who i=(K.hold c who 5 (96+i.k) i).wMl (upd (K.hold c who 5 (96+i.k) i).ml i.k.toNat (((K.hold c who 5 (96+i.k) i).ml i.k.toNat).hold who (K.reg who i.b))):=by
 unfold Kn.send;dsimp only;rw [if_pos e,if_neg hd,if_pos h0];rfl
theorem zl5 (e:¬ (K.ml i.k.toNat).sendE=0) (hd:¬ i.d=1) (h0:¬ K.holdE c who i=0):K.send c who i=K.refuse c who i (K.holdE c who i):=by
 unfold Kn.send;dsimp only;rw [if_pos e,if_neg hd,if_neg h0]
theorem ziw (hq:i.k=q) (ha:i.a=a) (e:(K.ml q).sendE=0) (ht:(K.ml q).sendT K.L.now=255):K.send c who i=K.sent c who q a (K.reg who i.b):=by
 have hq':i.k.toNat=q:=by omega
 unfold Kn.send;dsimp only;rw [hq',hq,ha,if_neg (by simp [e]),if_pos ht];rfl
theorem zgx (hq:i.k=q) (ha:i.a=a) (e:(K.ml q).sendE=0) {tn:Nat} (ht:(K.ml q).sendT K.L.now=tn) (htn:tn<64):K.send c who i=(((K.sent c who q a (K.reg who i.b)).put tn ((K.sent c who q a (K.reg who i.b)).call c tn).b (K.reg who i.b)).tell c 17 tn q (K.reg who i.b)).wake c tn 1 0:=by
 have hq':i.k.toNat=q:=by omega
 unfold Kn.send;dsimp only;rw [hq',hq,ha,if_neg (by simp [e]),ht,if_neg (by omega)];rfl
theorem ziy (h:Inv c K) (hq:q<c.queues.length):(K.ml q).sendT K.L.now=255∨∃ tn:Nat,(K.ml q).sendT K.L.now=tn∧tn<c.ts.length∧(K.T tn).st=6:=by
 unfold Mq.sendT
 split
 ·rename_i hR
  have hb:=z1n K.L.now _ hR;obtain ⟨g1,g2,_⟩:=h.mlr _ hq _ hb;have g0:=((h.ml _ hq).1.r.2 _ hb).1;obtain ⟨n,hn⟩:=Int.eq_ofNat_of_zero_le g0;rw [hn] at g1 g2 ⊢;exact .inr ⟨n,rfl,by omega,g2⟩
 ·exact .inl rfl
theorem zhr (h:Inv c K) (hw:z3u c who) (hq:q<c.queues.length) {v:Int} (hv:zG v):Inv c (K.sent c who q a v):=by
 have hQ:=h.ml _ hq;have h1:=z5R h hq (zaH hQ.1 K.L.now v) (zdd hQ.2 K.L.now hv) (fun x hx=>h.mls _ hq x (zjv _ _ _ hx)) (fun x hx=>h.mlr _ hq x (zju _ _ _ hx));exact zl (z0v h1 hw a (v:=0) ⟨by simp,by simp⟩) _ _ _ _
theorem zl7 (u:Nat) (v:Int):((K.sent c who q a v).T u).st=(K.T u).st:=by
 unfold Kn.sent;rw [z01,(z1b _ _ _).1];rfl
theorem ziz (v:Int):(K.sent c who q a v).told.length≤K.told.length+1:=by
 unfold Kn.sent;have:=zW (c:=c) ((K.wMl (upd K.ml q ((K.ml q).send K.L.now v))).put who a 0) 16 who q v;rw [zQ] at this;exact this
end
theorem zfr (b:Nat) (x:Fx) (c:Cf) (K:Kn) (who cb co:Nat) (hcx:z4b b x c cb co who) (i:Ins) (hi:zI i) (h:Inv c K) (hm:64≤who→i.d=1) (k:Nat) (hk:i.k=k) (hkl:k<c.queues.length) (e:¬ (K.ml k).sendE=0) (w0 w:World) (F:HP) (hs:Sat w0 w (knP b x c K*F)) (hl:K.told.length≤99990) :
  Calls Tryz.prog 116 #[.pointer (some ⟨b,0,none⟩),.int .i64 who,.pointer (some ⟨cb,co,none⟩),z22 i] w (zp w0 (.tuple #[]) (knP b x c (K.send c who i)*F)):=by
 have cf:=h.cf;have hnq:=cf.nq;have hw80:=z25 h (zP hcx);have hRf:=hid (fun (e:Int) (he:0≤e∧e≤16) (w:World) (G:HP) (hs:Sat w0 w (knP b x c K*G))=>zV b x c K who cb co hcx i hi e he w0 w G hs cf hw80 (by omega));have u5:IntKind.i64.wrap (k:Int)=k:=by rw [IntKind.wrap_i64];omega
 have u6:IntKind.i64.wrap (96+(k:Int))=96+(k:Int):=by rw [IntKind.wrap_i64];omega
 haveI:Lt k c.queues.length:=⟨hkl⟩;have a1:=x.qa.ad_pos (show 0<c.queues.length by omega);have i1:(k:Int)<(c.queues.length:Int):=by omega
 have d1:decide (k<c.queues.length)=true:=decide_eq_true hkl;have hok:=h.ml k hkl;have hki:i.k.toNat=k:=by omega
 obtain ⟨n,hn⟩:=Int.eq_ofNat_of_zero_le (show 0≤i.b from hi.b.1);have hn8:n<8:=by have:=hi.b.2;omega
 haveI:Lt n 8:=⟨hn8⟩;have d3:decide (n<8)=true:=decide_eq_true hn8;have i3:(n:Int)<8:=by omega
 have hLev:=hid (fun w G hs=>z43 b x c K w0 w G hs h.L.fit);have hSend:=hid (fun lv w G hs hr=>zfj b x c K w0 w G hs k hkl hok.1 (K.reg who n) lv K.L.now hr);obtain ⟨e7,es⟩:=zgz e;rw [zfS (K:=K) (s:=k) (es K.L.now (K.reg who n)),e7] at hSend;clear es
 by_cases hd:i.d=1
 ·have hx:=hid (zix (K:=K) (c:=c) (who:=who) (by rw [hki];exact e) hd);rw [hki,e7] at hx;rw [hx.out];have hR:=hid (hRf.out 7 (by decide));clear hRf hi h cf hl hx hok e hki e7 hm;obtain ⟨op,a',b',c',d,k'⟩:=i;have hk:k'=k:=hk;have hd:d=1:=hd;have hn:b'=n:=hn;subst hk hd hn
  go_enter Tryz.func116,Tryz.ntmps116
  go_wp2_with fail;go_quiet (fail);go_wp2_with fail;refine (hLev.out _ _ own).mono ?_;rintro en w1 ⟨lv,rfl,hs1⟩;obtain ⟨la,lc,rfl⟩:=hs1.slice_form;go_wp2_with fail;refine (hSend.out _ _ _ own rd).mono ?_;rintro en w2 ⟨rfl,hs2⟩;go_wp2_with fail;refine (hR.out _ _ z6).mono ?_;rintro en w3 ⟨rfl,hs3⟩;go_wp2_with fail
  go_end0
  exact ⟨rfl,z3⟩
 ·have hd1:(i.d != 1)=true:=by simp [hd]
  have hw64:who<64:=by
   rcases Nat.lt_or_ge who 64 with a | a
   ·exact a
   ·exact absurd (hm a) hd
  have ht:who<c.ts.length:=by rcases zP hcx with a | a;exact a.2;omega
  by_cases h0:K.holdE c who i=0
  ·have hx:=hid (zgy (K:=K) (c:=c) (who:=who) (by rw [hki];exact e) hd h0);have hH:=hid (fun (w:World) (G:HP) (hs:Sat w0 w (knP b x c K*G))=>z7a b x c K who 5 (96+k) i hi h0 h ht ⟨by omega,by omega⟩ w0 w G hs (by omega));have hM:=hid (fun (w:World) (G:HP) (hs:Sat w0 w (knP b x c (K.hold c who 5 (96+k) i)*G))=>zke b x c _ w0 w G hs k hkl (by rw [z8U];exact hok.1) who (K.reg who n));rw [hki,hk,hn] at hx;rw [hx.out];clear hRf hi h cf hl hx hok e hki e7 hm hd h0;obtain ⟨op,a',b',c',d,k'⟩:=i;have hk:k'=k:=hk;have hd1:(d != 1)=true:=hd1;have hn:b'=n:=hn;subst hk hn
   go_enter Tryz.func116,Tryz.ntmps116
   go_wp2_with fail;go_quiet (fail);go_wp2_with fail;refine (hLev.out _ _ own).mono ?_;rintro en w1 ⟨lv,rfl,hs1⟩;obtain ⟨la,lc,rfl⟩:=hs1.slice_form;go_wp2_with fail;refine (hSend.out _ _ _ own rd).mono ?_;rintro en w2 ⟨rfl,hs2⟩;go_wp2_with fail;refine (hH.out _ _ z6).mono ?_;rintro en w3 ⟨rfl,hs3⟩;go_wp2_with fail;refine (hM.out _ _ z6).mono ?_;rintro en w4 ⟨rfl,hs4⟩;go_wp2_with fail
   go_end0
   exact ⟨rfl,z3⟩
  ·have hx:=hid (zl5 (K:=K) (c:=c) (who:=who) (by rw [hki];exact e) hd h0);obtain ⟨z,hz⟩:∃ z,z=K.holdE c who i:=⟨_,rfl⟩;have hH:=hid (fun w G hs=>z79 b x c K who 5 (96+k) i hi z hz.symm h0 h ht w0 w G hs);have hR:=hid (hRf.out z (by rw [hz];exact z1A (c:=c) (K:=K) who i));have z1:(z==0)=false:=by rw [hz];simp [h0]
   rw [← hz] at hx;rw [hx.out];clear hRf hi h cf hl hx hok e hki e7 hm hd h0 hz;obtain ⟨op,a',b',c',d,k'⟩:=i;have hk:k'=k:=hk;have hd1:(d != 1)=true:=hd1;have hn:b'=n:=hn;subst hk hn
   go_enter Tryz.func116,Tryz.ntmps116
   go_wp2_with fail;go_quiet (fail);go_wp2_with fail;refine (hLev.out _ _ own).mono ?_;rintro en w1 ⟨lv,rfl,hs1⟩;obtain ⟨la,lc,rfl⟩:=hs1.slice_form;go_wp2_with fail;refine (hSend.out _ _ _ own rd).mono ?_;rintro en w2 ⟨rfl,hs2⟩;go_wp2_with fail;refine (hH.out _ _ z6).mono ?_;rintro en w3 ⟨rfl,hs3⟩;go_wp2_with fail;refine (hR.out _ _ z6).mono ?_;rintro en w4 ⟨rfl,hs4⟩;go_wp2_with fail
   go_end0
   exact ⟨rfl,z3⟩
theorem zfs (b:Nat) (x:Fx) (c:Cf) (K:Kn) (who cb co:Nat) (hcx:z4b b x c cb co who) (i:Ins) (hi:zI i) (h:Inv c K) (k:Nat) (hk:i.k=k) (hkl:k<c.queues.length) (e:(K.ml k).sendE=0) (w0 w:World) (F:HP) (hs:Sat w0 w (knP b x c K*F)) (hl:K.told.length≤99990) :
  Calls Tryz.prog 116 #[.pointer (some ⟨b,0,none⟩),.int .i64 who,.pointer (some ⟨cb,co,none⟩),z22 i] w (zp w0 (.tuple #[]) (knP b x c (K.send c who i)*F)):=by
 have cf:=h.cf;have hnq:=cf.nq;have hnt:=cf.nt;have hwo:=zP hcx;have hw80:=z25 h hwo;have u5:IntKind.i64.wrap (k:Int)=k:=by rw [IntKind.wrap_i64];omega
 haveI:Lt k c.queues.length:=⟨hkl⟩;have a1:=x.qa.ad_pos (show 0<c.queues.length by omega);have i1:(k:Int)<(c.queues.length:Int):=by omega
 have d1:decide (k<c.queues.length)=true:=decide_eq_true hkl;have hok:=h.ml k hkl;obtain ⟨n,hn⟩:=Int.eq_ofNat_of_zero_le (show 0≤i.b from hi.b.1);have hn8:n<8:=by have:=hi.b.2;omega
 haveI:Lt n 8:=⟨hn8⟩;have d3:decide (n<8)=true:=decide_eq_true hn8;have i3:(n:Int)<8:=by omega
 obtain ⟨a,ha⟩:=Int.eq_ofNat_of_zero_le (show 0≤i.a from hi.a.1);have ha8:a<8:=by have:=hi.a.2;omega
 haveI:Lt a 8:=⟨ha8⟩;have d2:decide (a<8)=true:=decide_eq_true ha8;have i2:(a:Int)<8:=by omega
 have hv:=z0K h hwo n;have hLev:=hid (fun w G hs=>z43 b x c K w0 w G hs h.L.fit);have hSend:=hid (fun lv w G hs hr=>zfj b x c K w0 w G hs k hkl hok.1 (K.reg who n) lv K.L.now hr);have hT:=hid (fun (kI:Int) (hk:kI=16) (w:World) (G:HP) (hs:Sat w0 w (knP b x c ((K.wMl (upd K.ml k ((K.ml k).send K.L.now (K.reg who n)))).put who a 0)*G))=>zN b x c _ 16 kI hk who k (K.reg who n) w0 w G hs cf (by decide) ⟨by omega,by omega⟩ ⟨by omega,by omega⟩ hv (by rw [zQ];show K.told.length≤100000;omega))
 rcases ziy h hkl with ht | ⟨tn,ht,htl,hst⟩
 ·have hx:=hid (ziw (c:=c) (who:=who) hk ha e ht);rw [hn] at hx;rw [hx.out];unfold Kn.sent;clear hi h cf hl hx hok hv;obtain ⟨op,a',b',c',d,k'⟩:=i;have hk:k'=k:=hk;have hn:b'=n:=hn;have ha:a'=a:=ha;subst hk hn ha
  go_enter Tryz.func116,Tryz.ntmps116
  go_wp2_with fail;go_quiet (fail);go_wp2_with fail;refine (hLev.out _ _ own).mono ?_;rintro en w1 ⟨lv,rfl,hs1⟩;obtain ⟨la,lc,rfl⟩:=hs1.slice_form;go_wp2_with fail;refine (hSend.out _ _ _ own rd).mono ?_;rintro en w2 ⟨rfl,hs2⟩;go_wp2_with fail;refine z9 (w0:=w0) ?_;intro wx hsx;go_still_tail 6,(by kernel_rfl);change wpList _ _ _ _ _ wx.drew;go_wp2_with fail;refine (hT.out _ rfl _ _ z6).mono ?_;rintro en w3 ⟨rfl,hs3⟩;go_wp2_with fail
  go_end0
  exact ⟨rfl,z3⟩
 ·have hx:=hid (zgx (c:=c) (who:=who) hk ha e ht (by omega));rw [hn] at hx;rw [hx.out];have h3:=zhr (a:=a) h hwo hkl hv;have hs6:=zl7 (K:=K) (c:=c) (who:=who) (q:=k) (a:=a) tn (K.reg who n);have hsl:=ziz (K:=K) (c:=c) (who:=who) (q:=k) (a:=a) (K.reg who n);obtain ⟨K1,hK1⟩:∃ K1,K1=K.sent c who k a (K.reg who n):=⟨_,rfl⟩;rw [← hK1] at h3 hs6 hsl ⊢;have HK:=hid hK1;unfold Kn.sent at HK;have hst1:(K1.T tn).st=6:=hs6.trans hst;have hb:=(h3.T tn htl).blk (by omega) (by omega);have hic:=z6H h3 htl hb.1 hb.2;obtain ⟨nb,hnb⟩:=Int.eq_ofNat_of_zero_le (show 0≤(K1.call c tn).b from hic.b.1);have hnb8:nb<8:=by have:=hic.b.2;omega
  rw [hnb,zg9 (by omega)];have h4:=zl (z0v h3 (who:=tn) (.inl ⟨by omega,htl⟩) nb hv) 17 tn k (K.reg who n);rw [zg9 (by omega)] at h4;have e9:((K1.wReg tn nb (K.reg who n)).T tn).st=6:=by unfold Kn.wReg;rw [z2U,if_pos rfl];exact hst1
  have hW:=z2c h4 htl (by rw [z01,e9];omega);have l4:=zW (c:=c) (K1.wReg tn nb (K.reg who n)) 17 tn k (K.reg who n);have e10:(K1.wReg tn nb (K.reg who n)).told=K1.told:=rfl;rw [e10] at l4;have hCall:=hid (fun w G hs=>zfh b x c K1 tn w0 w G hs cf htl hb.1 hb.2);have hT2:=hid (fun (kI:Int) (hk:kI=17) (w:World) (G:HP) (hs:Sat w0 w (knP b x c (K1.wReg tn nb (K.reg who n))*G))=>zN b x c _ 17 kI hk tn k (K.reg who n) w0 w G hs cf (by decide) ⟨by omega,by omega⟩ ⟨by omega,by omega⟩ hv (by show K1.told.length≤100000;omega));have hWk:=hid (fun (w:World) (G:HP) (hs:Sat w0 w (knP b x c ((K1.wReg tn nb (K.reg who n)).tell c 17 tn k (K.reg who n))*G))=>zax b x c _ tn hW 1 0 (.inr rfl) (by decide) w0 w G hs (by omega));haveI:Lt nb 8:=⟨hnb8⟩;haveI:Lt tn c.ts.length:=⟨htl⟩;have a2:=x.ta.ad_pos (show 0<c.ts.length by omega);have i4:(nb:Int)<8:=by omega
  have d4:decide (nb<8)=true:=decide_eq_true hnb8;have i5:(tn:Int)<(c.ts.length:Int):=by omega
  have d5:decide (tn<c.ts.length)=true:=decide_eq_true htl;have e5:((tn:Int)==255)=false:=by simp;omega
  clear hi h cf hl hx hok hv h3 hs6 hsl hK1 hst1 hb hic h4 hW l4 e9 e10 hst;obtain ⟨op,a',b',c',d,k'⟩:=i;have hk:k'=k:=hk;have hn:b'=n:=hn;have ha:a'=a:=ha;subst hk hn ha
  go_enter Tryz.func116,Tryz.ntmps116
  go_wp2_with fail;go_quiet (fail);go_wp2_with fail;refine (hLev.out _ _ own).mono ?_;rintro en w1 ⟨lv,rfl,hs1⟩;obtain ⟨la,lc,rfl⟩:=hs1.slice_form;go_wp2_with fail;refine (hSend.out _ _ _ own rd).mono ?_;rintro en w2 ⟨rfl,hs2⟩;go_wp2_with fail;refine z9 (w0:=w0) ?_;intro wx hsx;go_still_tail 6,(by kernel_rfl);change wpList _ _ _ _ _ wx.drew;go_wp2_with fail;refine (hT.out _ rfl _ _ z6).mono ?_;rintro en w3 ⟨rfl,hs3⟩;rw [← HK.out] at hs3;clear hs hs1 hs2 hsx;go_wp2_with fail;refine z9 (w0:=w0) ?_;intro wy hsy;clear hs3;refine zj (fun w'=>w'.cell? ⟨b,542,none⟩=some (x.ta.v c.ts.length)) [(0,true),(1,true),(2,true),(3,true),(4,true),(5,true),(6,true),(9,true),(10,true),(11,true),(12,true),(7,false),(8,true),(13,true),(14,false)] (by kernel_rfl) (by kernel_rfl) (fun _ _ _ _ h=>h) z4 ?_
  iterate 11 (first | refine zsR ?_ | refine zsQ ?_)
  refine z29 rfl (by rfl) (fun K hK=>?_);go_wp2_with fail;refine (hCall.out _ _ own).mono ?_;rintro en w4 ⟨rfl,hs4⟩;clear hsy;go_wp2_with fail;refine ⟨z4,?_⟩
  iterate 2 (first | refine zsR ?_ | refine zsQ ?_)
  refine z29 rfl (by rfl) (fun K hK=>?_);go_wp2_with fail;refine ⟨z4,?_⟩;refine zB ?_;go_wp2_with fail;refine (hT2.out _ rfl _ _ z6).mono ?_;rintro en w5 ⟨rfl,hs5⟩;clear hs4;go_wp2_with fail;refine (hWk.out _ _ z6).mono ?_;rintro en w6 ⟨rfl,hs6⟩;go_wp2_with fail
  go_end0
  exact ⟨rfl,z3⟩
theorem zgh {q:Mq} (e:¬ q.recvE=0):q.recvE=8∧∀ lv,q.recv lv=q:=by
 unfold Mq.recvE at e ⊢
 split at e
 ·rename_i hn
  rw [if_pos hn];exact ⟨rfl,fun lv=>by unfold Mq.recv;rw [if_pos hn]⟩
 ·exact absurd rfl e
def Kn.got (K:Kn) (c:Cf) (who:Nat) (q a n:Nat):Kn:=(((K.wMl (upd K.ml q ((K.ml q).recv K.L.now))).put who n (K.ml q).recvV).put who a 0).tell c 17 who q (K.ml q).recvV
section
variable {c:Cf} {K:Kn} {who:Nat} {i:Ins} {q a n:Nat}
theorem zii (e:¬ (K.ml i.k.toNat).recvE=0) (hd:i.d=1):K.recv c who i=K.refuse c who i (K.ml i.k.toNat).recvE:=by
 unfold Kn.recv;dsimp only;rw [if_pos e,if_pos hd]
theorem zgg (e:¬ (K.ml i.k.toNat).recvE=0) (hd:¬ i.d=1) (h0:K.holdE c who i=0):K.recv c who i=(K.hold c who 6 (128+i.k) i).wMl (upd (K.hold c who 6 (128+i.k) i).ml i.k.toNat (((K.hold c who 6 (128+i.k) i).ml i.k.toNat).await who)):=by
 unfold Kn.recv;dsimp only;rw [if_pos e,if_neg hd,if_pos h0];rfl
theorem zkX (e:¬ (K.ml i.k.toNat).recvE=0) (hd:¬ i.d=1) (h0:¬ K.holdE c who i=0):K.recv c who i=K.refuse c who i (K.holdE c who i):=by
 unfold Kn.recv;dsimp only;rw [if_pos e,if_neg hd,if_neg h0]
theorem zih (hq:i.k=q) (ha:i.a=a) (hn:i.b=n) (e:(K.ml q).recvE=0) (ht:(K.ml q).recvT K.L.now=255):K.recv c who i=K.got c who q a n:=by
 have hq':i.k.toNat=q:=by omega
 unfold Kn.recv;dsimp only;rw [hq',hq,ha,hn,if_neg (by simp [e]),if_pos ht];rfl
theorem zgf (hq:i.k=q) (ha:i.a=a) (hn:i.b=n) (e:(K.ml q).recvE=0) {tn:Nat} (ht:(K.ml q).recvT K.L.now=tn) (htn:tn<64):K.recv c who i=((K.got c who q a n).tell c 16 tn q (((K.got c who q a n).T tn).rg.get ((K.got c who q a n).call c tn).b.toNat)).wake c tn 1 0:=by
 have hq':i.k.toNat=q:=by omega
 unfold Kn.recv;dsimp only;rw [hq',hq,ha,hn,if_neg (by simp [e]),ht,if_neg (by omega)];rfl
theorem zij (h:Inv c K) (hq:q<c.queues.length):(K.ml q).recvT K.L.now=255∨∃ tn:Nat,(K.ml q).recvT K.L.now=tn∧tn<c.ts.length∧(K.T tn).st=5:=by
 unfold Mq.recvT
 split
 ·exact .inl rfl
 ·rename_i hR
  have hb:=z1n K.L.now (K.ml q).S (fun e=>hR (.inr e));obtain ⟨g1,g2,_⟩:=h.mls _ hq _ hb;have g0:=((h.ml _ hq).1.s.2 _ hb).1;obtain ⟨n,hn⟩:=Int.eq_ofNat_of_zero_le g0;rw [hn] at g1 g2 ⊢;exact .inr ⟨n,rfl,by omega,g2⟩
theorem zk8 (h:Inv c K) (hw:z3u c who) (hq:q<c.queues.length):Inv c (K.got c who q a n):=by
 have hQ:=h.ml _ hq;have h1:=z5R h hq (z7m hQ.1 K.L.now) (zdc hQ.2 K.L.now) (fun x hx=>h.mls _ hq x (zjq _ _ hx)) (fun x hx=>h.mlr _ hq x (zjp _ _ hx));exact zl (z0v (z0v h1 hw n (z7y hQ.2)) hw a (v:=0) ⟨by simp,by simp⟩) _ _ _ _
theorem zlR (u:Nat):((K.got c who q a n).T u).st=(K.T u).st:=by
 unfold Kn.got;rw [z01,(z1b _ _ _).1,(z1b _ _ _).1];rfl
theorem zk5:(K.got c who q a n).told.length≤K.told.length+1:=by
 unfold Kn.got;have:=zW (c:=c) (((K.wMl (upd K.ml q ((K.ml q).recv K.L.now))).put who n (K.ml q).recvV).put who a 0) 17 who q (K.ml q).recvV;rw [zQ,zQ] at this;exact this
end
theorem zfl (b:Nat) (x:Fx) (c:Cf) (K:Kn) (who cb co:Nat) (hcx:z4b b x c cb co who) (i:Ins) (hi:zI i) (h:Inv c K) (hm:64≤who→i.d=1) (k:Nat) (hk:i.k=k) (hkl:k<c.queues.length) (e:¬ (K.ml k).recvE=0) (w0 w:World) (F:HP) (hs:Sat w0 w (knP b x c K*F)) (hl:K.told.length≤99990) :
  Calls Tryz.prog 117 #[.pointer (some ⟨b,0,none⟩),.int .i64 who,.pointer (some ⟨cb,co,none⟩),z22 i] w (zp w0 (.tuple #[]) (knP b x c (K.recv c who i)*F)):=by
 have cf:=h.cf;have hnq:=cf.nq;have hw80:=z25 h (zP hcx);have hRf:=hid (fun (e:Int) (he:0≤e∧e≤16) (w:World) (G:HP) (hs:Sat w0 w (knP b x c K*G))=>zV b x c K who cb co hcx i hi e he w0 w G hs cf hw80 (by omega));have u5:IntKind.i64.wrap (k:Int)=k:=by rw [IntKind.wrap_i64];omega
 have u6:IntKind.i64.wrap (128+(k:Int))=128+(k:Int):=by rw [IntKind.wrap_i64];omega
 haveI:Lt k c.queues.length:=⟨hkl⟩;have a1:=x.qa.ad_pos (show 0<c.queues.length by omega);have i1:(k:Int)<(c.queues.length:Int):=by omega
 have d1:decide (k<c.queues.length)=true:=decide_eq_true hkl;have hok:=h.ml k hkl;have hki:i.k.toNat=k:=by omega
 have hLev:=hid (fun w G hs=>z43 b x c K w0 w G hs h.L.fit);have hRecv:=hid (fun lv w G hs hr=>zfi b x c K w0 w G hs k hkl hok.1 lv K.L.now hr);obtain ⟨e7,es⟩:=zgh e;rw [zfS (K:=K) (s:=k) (es K.L.now),e7] at hRecv;clear es
 by_cases hd:i.d=1
 ·have hx:=hid (zii (K:=K) (c:=c) (who:=who) (by rw [hki];exact e) hd);rw [hki,e7] at hx;rw [hx.out];have hR:=hid (hRf.out 8 (by decide));clear hRf hi h cf hl hx hok e hki e7 hm;obtain ⟨op,a',b',c',d,k'⟩:=i;have hk:k'=k:=hk;have hd:d=1:=hd;subst hk hd
  go_enter Tryz.func117,Tryz.ntmps117
  go_wp2_with fail;go_quiet (fail);go_wp2_with fail;refine (hLev.out _ _ own).mono ?_;rintro en w1 ⟨lv,rfl,hs1⟩;obtain ⟨la,lc,rfl⟩:=hs1.slice_form;go_wp2_with fail;refine (hRecv.out _ _ _ own z52).mono ?_;rintro en w2 ⟨rfl,hs2⟩;go_wp2_with fail;refine (hR.out _ _ z6).mono ?_;rintro en w3 ⟨rfl,hs3⟩;go_wp2_with fail
  go_end0
  exact ⟨rfl,z3⟩
 ·have hd1:(i.d != 1)=true:=by simp [hd]
  have hw64:who<64:=by
   rcases Nat.lt_or_ge who 64 with a | a
   ·exact a
   ·exact absurd (hm a) hd
  have ht:who<c.ts.length:=by rcases zP hcx with a | a;exact a.2;omega
  by_cases h0:K.holdE c who i=0
  ·have hx:=hid (zgg (K:=K) (c:=c) (who:=who) (by rw [hki];exact e) hd h0);have hH:=hid (fun (w:World) (G:HP) (hs:Sat w0 w (knP b x c K*G))=>z7a b x c K who 6 (128+k) i hi h0 h ht ⟨by omega,by omega⟩ w0 w G hs (by omega));have hM:=hid (fun (w:World) (G:HP) (hs:Sat w0 w (knP b x c (K.hold c who 6 (128+k) i)*G))=>zhz b x c _ w0 w G hs k hkl (by rw [z8U];exact hok.1) who);rw [hki,hk] at hx;rw [hx.out];clear hRf hi h cf hl hx hok e hki e7 hm hd h0;obtain ⟨op,a',b',c',d,k'⟩:=i;have hk:k'=k:=hk;have hd1:(d != 1)=true:=hd1;subst hk
   go_enter Tryz.func117,Tryz.ntmps117
   go_wp2_with fail;go_quiet (fail);go_wp2_with fail;refine (hLev.out _ _ own).mono ?_;rintro en w1 ⟨lv,rfl,hs1⟩;obtain ⟨la,lc,rfl⟩:=hs1.slice_form;go_wp2_with fail;refine (hRecv.out _ _ _ own z52).mono ?_;rintro en w2 ⟨rfl,hs2⟩;go_wp2_with fail;refine (hH.out _ _ z6).mono ?_;rintro en w3 ⟨rfl,hs3⟩;go_wp2_with fail;refine (hM.out _ _ z6).mono ?_;rintro en w4 ⟨rfl,hs4⟩;go_wp2_with fail
   go_end0
   exact ⟨rfl,z3⟩
  ·have hx:=hid (zkX (K:=K) (c:=c) (who:=who) (by rw [hki];exact e) hd h0);obtain ⟨z,hz⟩:∃ z,z=K.holdE c who i:=⟨_,rfl⟩;have hH:=hid (fun w G hs=>z79 b x c K who 6 (128+k) i hi z hz.symm h0 h ht w0 w G hs);have hR:=hid (hRf.out z (by rw [hz];exact z1A (c:=c) (K:=K) who i));have z1:(z==0)=false:=by rw [hz];simp [h0]
   rw [← hz] at hx;rw [hx.out];clear hRf hi h cf hl hx hok e hki e7 hm hd h0 hz;obtain ⟨op,a',b',c',d,k'⟩:=i;have hk:k'=k:=hk;have hd1:(d != 1)=true:=hd1;subst hk
   go_enter Tryz.func117,Tryz.ntmps117
   go_wp2_with fail;go_quiet (fail);go_wp2_with fail;refine (hLev.out _ _ own).mono ?_;rintro en w1 ⟨lv,rfl,hs1⟩;obtain ⟨la,lc,rfl⟩:=hs1.slice_form;go_wp2_with fail;refine (hRecv.out _ _ _ own z52).mono ?_;rintro en w2 ⟨rfl,hs2⟩;go_wp2_with fail;refine (hH.out _ _ z6).mono ?_;rintro en w3 ⟨rfl,hs3⟩;go_wp2_with fail;refine (hR.out _ _ z6).mono ?_;rintro en w4 ⟨rfl,hs4⟩;go_wp2_with fail
   go_end0
   exact ⟨rfl,z3⟩
theorem zfm (b:Nat) (x:Fx) (c:Cf) (K:Kn) (who cb co:Nat) (hcx:z4b b x c cb co who) (i:Ins) (hi:zI i) (h:Inv c K) (k:Nat) (hk:i.k=k) (hkl:k<c.queues.length) (e:(K.ml k).recvE=0) (w0 w:World) (F:HP) (hs:Sat w0 w (knP b x c K*F)) (hl:K.told.length≤99990) :
  Calls Tryz.prog 117 #[.pointer (some ⟨b,0,none⟩),.int .i64 who,.pointer (some ⟨cb,co,none⟩),z22 i] w (zp w0 (.tuple #[]) (knP b x c (K.recv c who i)*F)):=by
 have cf:=h.cf;have hnq:=cf.nq;have hnt:=cf.nt;have hwo:=zP hcx;have hw80:=z25 h hwo;have u5:IntKind.i64.wrap (k:Int)=k:=by rw [IntKind.wrap_i64];omega
 haveI:Lt k c.queues.length:=⟨hkl⟩;have a1:=x.qa.ad_pos (show 0<c.queues.length by omega);have i1:(k:Int)<(c.queues.length:Int):=by omega
 have d1:decide (k<c.queues.length)=true:=decide_eq_true hkl;have hok:=h.ml k hkl;obtain ⟨n,hn⟩:=Int.eq_ofNat_of_zero_le (show 0≤i.b from hi.b.1);have hn8:n<8:=by have:=hi.b.2;omega
 haveI:Lt n 8:=⟨hn8⟩;have d3:decide (n<8)=true:=decide_eq_true hn8;have i3:(n:Int)<8:=by omega
 obtain ⟨a,ha⟩:=Int.eq_ofNat_of_zero_le (show 0≤i.a from hi.a.1);have ha8:a<8:=by have:=hi.a.2;omega
 haveI:Lt a 8:=⟨ha8⟩;have d2:decide (a<8)=true:=decide_eq_true ha8;have i2:(a:Int)<8:=by omega
 have hv:=z7y hok.2;have hLev:=hid (fun w G hs=>z43 b x c K w0 w G hs h.L.fit);have hRecv:=hid (fun lv w G hs hr=>zfi b x c K w0 w G hs k hkl hok.1 lv K.L.now hr);have hT:=hid (fun (kI:Int) (hk:kI=17) (w:World) (G:HP) (hs:Sat w0 w (knP b x c (((K.wMl (upd K.ml k ((K.ml k).recv K.L.now))).put who n (K.ml k).recvV).put who a 0)*G))=>zN b x c _ 17 kI hk who k (K.ml k).recvV w0 w G hs cf (by decide) ⟨by omega,by omega⟩ ⟨by omega,by omega⟩ hv (by rw [zQ,zQ];show K.told.length≤100000;omega))
 rcases zij h hkl with ht | ⟨tn,ht,htl,hst⟩
 ·have hx:=hid (zih (c:=c) (who:=who) hk ha hn e ht);rw [hx.out];unfold Kn.got;clear hi h cf hl hx hok hv;obtain ⟨op,a',b',c',d,k'⟩:=i;have hk:k'=k:=hk;have hn:b'=n:=hn;have ha:a'=a:=ha;subst hk hn ha
  go_enter Tryz.func117,Tryz.ntmps117
  go_wp2_with fail;go_quiet (fail);go_wp2_with fail;refine (hLev.out _ _ own).mono ?_;rintro en w1 ⟨lv,rfl,hs1⟩;obtain ⟨la,lc,rfl⟩:=hs1.slice_form;go_wp2_with fail;refine (hRecv.out _ _ _ own z52).mono ?_;rintro en w2 ⟨rfl,hs2⟩;go_wp2_with fail;refine z9 (w0:=w0) ?_;intro wx hsx;go_still_tail 7,(by kernel_rfl);change wpList _ _ _ _ _ wx.drew;go_wp2_with fail;refine z9 (w0:=w0) ?_;intro wx hsx;go_still_tail 6,(by kernel_rfl);change wpList _ _ _ _ _ wx.drew;go_wp2_with fail;refine (hT.out _ rfl _ _ z6).mono ?_;rintro en w3 ⟨rfl,hs3⟩;go_wp2_with fail
  go_end0
  exact ⟨rfl,z3⟩
 ·have hx:=hid (zgf (c:=c) (who:=who) hk ha hn e ht (by omega));rw [hx.out];have h3:=zk8 (a:=a) (n:=n) h hwo hkl;have hs6:=zlR (K:=K) (c:=c) (who:=who) (q:=k) (a:=a) (n:=n) tn;have hsl:=zk5 (K:=K) (c:=c) (who:=who) (q:=k) (a:=a) (n:=n);obtain ⟨K1,hK1⟩:∃ K1,K1=K.got c who k a n:=⟨_,rfl⟩;rw [← hK1] at h3 hs6 hsl ⊢;have HK:=hid hK1;unfold Kn.got at HK;have hst1:(K1.T tn).st=5:=hs6.trans hst;have hb:=(h3.T tn htl).blk (by omega) (by omega);have hic:=z6H h3 htl hb.1 hb.2;obtain ⟨nb,hnb⟩:=Int.eq_ofNat_of_zero_le (show 0≤(K1.call c tn).b from hic.b.1);have hnb8:nb<8:=by have:=hic.b.2;omega
  rw [hnb,Int.toNat_natCast];have hrv:=(h3.T tn htl).rg nb;have h4:=zl h3 16 tn k ((K1.T tn).rg.get nb);have hW:=z2c h4 htl (by rw [z01];omega);have l4:=zW (c:=c) K1 16 tn k ((K1.T tn).rg.get nb);have hCall:=hid (fun w G hs=>zfh b x c K1 tn w0 w G hs cf htl hb.1 hb.2);have hT2:=hid (fun (kI:Int) (hk:kI=16) (w:World) (G:HP) (hs:Sat w0 w (knP b x c K1*G))=>zN b x c _ 16 kI hk tn k ((K1.T tn).rg.get nb) w0 w G hs cf (by decide) ⟨by omega,by omega⟩ ⟨by omega,by omega⟩ hrv (by omega));have hWk:=hid (fun (w:World) (G:HP) (hs:Sat w0 w (knP b x c (K1.tell c 16 tn k ((K1.T tn).rg.get nb))*G))=>zax b x c _ tn hW 1 0 (.inr rfl) (by decide) w0 w G hs (by omega));haveI:Lt nb 8:=⟨hnb8⟩;haveI:Lt tn c.ts.length:=⟨htl⟩;have a2:=x.ta.ad_pos (show 0<c.ts.length by omega);have i4:(nb:Int)<8:=by omega
  have d4:decide (nb<8)=true:=decide_eq_true hnb8;have i5:(tn:Int)<(c.ts.length:Int):=by omega
  have d5:decide (tn<c.ts.length)=true:=decide_eq_true htl;have e5:((tn:Int)==255)=false:=by simp;omega
  have hTT:=hid (z01 (c:=c) (K:=K1) 16 tn k ((K1.T tn).rg.get nb));clear hi h cf hl hx hok hv h3 hs6 hsl hK1 hst1 hb hic h4 hW l4 hst hrv;obtain ⟨op,a',b',c',d,k'⟩:=i;have hk:k'=k:=hk;have hn:b'=n:=hn;have ha:a'=a:=ha;subst hk hn ha
  go_enter Tryz.func117,Tryz.ntmps117
  go_wp2_with fail;go_quiet (fail);go_wp2_with fail;refine (hLev.out _ _ own).mono ?_;rintro en w1 ⟨lv,rfl,hs1⟩;obtain ⟨la,lc,rfl⟩:=hs1.slice_form;go_wp2_with fail;refine (hRecv.out _ _ _ own z52).mono ?_;rintro en w2 ⟨rfl,hs2⟩;go_wp2_with fail;refine z9 (w0:=w0) ?_;intro wx hsx;go_still_tail 7,(by kernel_rfl);change wpList _ _ _ _ _ wx.drew;go_wp2_with fail;refine z9 (w0:=w0) ?_;intro wx hsx;go_still_tail 6,(by kernel_rfl);change wpList _ _ _ _ _ wx.drew;go_wp2_with fail;refine (hT.out _ rfl _ _ z6).mono ?_;rintro en w3 ⟨rfl,hs3⟩;rw [← HK.out] at hs3;clear hs hs1 hs2 hsx;go_wp2_with fail;refine z9 (w0:=w0) ?_;intro wy hsy;clear hs3;refine zj (fun w'=>w'.cell? ⟨w.heap.size,5,none⟩=some (.int .u32 k)∧w'.cell? ⟨b,542,none⟩=some (x.ta.v c.ts.length)∧w'.cell? ⟨x.ta.b,x.ta.o+tn*15+5+1+nb,none⟩=some (.int .u32 ((K1.T tn).rg.get nb))) [(0,true),(1,true),(2,true),(3,true),(4,true),(5,true),(6,true),(7,true),(8,true),(9,true),(10,true),(11,true),(14,true),(15,true),(16,true),(12,false),(13,true),(17,true),(18,true),(19,false)] (by kernel_rfl) (by kernel_rfl) (fun _ _ _ _ h=>h) ⟨z4,z4,z4⟩ ?_
  iterate 15 (first | refine zsR ?_ | refine zsQ ?_)
  refine z29 rfl (by rfl) (fun K hK=>?_);go_wp2_with fail;refine (hCall.out _ _ own).mono ?_;rintro en w4 ⟨rfl,hs4⟩;clear hsy;go_wp2_with fail;refine ⟨⟨z4,z4,z4⟩,?_⟩
  iterate 3 (first | refine zsR ?_ | refine zsQ ?_)
  refine z29 rfl (by rfl) (fun K hK=>?_);go_wp2_with fail;refine (hT2.out _ rfl _ _ z6).mono ?_;rintro en w5 ⟨rfl,hs5⟩;have hrc:w5.cell? ⟨x.ta.b,x.ta.o+tn*15+5+1+nb,none⟩=some (.int .u32 (((K1.tell c 16 tn k ((K1.T tn).rg.get nb)).T tn).rg.get nb)):=z4;rw [hTT.out] at hrc;clear hs4;go_wp2_with fail;refine ⟨⟨z4,z4,hrc⟩,?_⟩;clear hrc;refine zB ?_;go_wp2_with fail;refine (hWk.out _ _ z6).mono ?_;rintro en w6 ⟨rfl,hs6⟩;go_wp2_with fail
  go_end0
  exact ⟨rfl,z3⟩
def Kn.gives (K:Kn) (c:Cf) (t:Nat) (l:List Int):Kn:=l.foldl (fun K m=>K.give c t m) K
theorem zdI {K:Kn} {c:Cf} {t:Nat} {l:List Int} {k:Nat} (h:k<l.length):(K.gives c t (l.take k)).give c t (l[k]'h)=K.gives c t (l.take (k+1)):=by
 unfold Kn.gives;rw [List.take_add_one,List.foldl_append];simp [h]
theorem zhg {K:Kn} {c:Cf} {t:Nat} (h:Inv c K) (ht:t<64) {l:List Int} (hm:∀ m∈l,0≤m∧m<32) {k:Nat} (hk:k≤l.length) :
  Inv c (K.gives c t (l.take k))∧(K.gives c t (l.take k)).told.length≤K.told.length+3*k:=by
 have hq:∀ m∈l.take k,0≤m∧m<32:=fun m hid=>hm m (List.mem_of_mem_take hid);refine ⟨z3E t _ _ h,?_⟩;have:=(z5k ht (l.take k) K h hq).len;rw [List.length_take,Nat.min_eq_left hk] at this;exact this
theorem zk9 {c:Cf} {K:Kn} (h:Inv c K) (t m:Int):Inv c (K.wL (zE K.L t m)):=by
 have ho:=z2q h.L t m;exact zah h (z1N h.L t m) (by rw [ho.1]) ho.2 fun u hu e=>by
  rcases z2b h.L t m e with f | f
  ·exact h.Lw u hu f.1
  ·exact h.Lw u hu f.1
theorem z8m (b:Nat) (x:Fx) (c:Cf) (K:Kn) (t:Nat) (status:Int) (h:Inv c (K.left t status)) (ht:t<c.ts.length) (w0 w:World) (F:HP) (hs:Sat w0 w (knP b x c K*F)) (hl:K.told.length≤99700) :
  Calls Tryz.prog 101 #[.pointer (some ⟨b,0,none⟩),.int .i64 t,.int .i64 status] w (zp w0 (.tuple #[]) (knP b x c (K.gone c t status)*F)):=by
 have cf:=h.cf;have hnt:=cf.nt;have hx:K.gone c t status=((((K.wSt t status).wR (z5F K.R t)).wS (z33 t K.S)).gives c t (z1O K.L t)).relevel c:=rfl;have h0:Inv c (((K.wSt t status).wR (z5F K.R t)).wS (z33 t K.S)):=z5n h t;have hr:=zcT h.L.fit (t:Int);have hr1:(z1O K.L t).length≤32:=hr.1;have hr2:∀ m∈z1O K.L t,0≤m∧m<32:=hr.2;have hC:=hid (fun (w:World) (G:HP) (hs:Sat w0 w (knP b x c ((K.wSt t status).wR (z5F K.R t))*G))=>z6q b x c _ w0 w G hs h.S t);have hH:=hid (fun (w:World) (G:HP) (hs:Sat w0 w (knP b x c (((K.wSt t status).wR (z5F K.R t)).wS (z33 t K.S))*G))=>zm8 b x c _ w0 w G hs h0.L.fit t);obtain ⟨K0,hK0⟩:∃ K0,K0=((K.wSt t status).wR (z5F K.R t)).wS (z33 t K.S):=⟨_,rfl⟩;obtain ⟨l,hll⟩:∃ l,l=z1O K.L t:=⟨_,rfl⟩;have hl0:K0.told.length≤99700:=by rw [hK0];exact hl
 have hH:Hid (∀ (w:World) (G:HP),Sat w0 w (knP b x c K0*G)→Calls Tryz.prog 120 #[.pointer (some ⟨x.lk,0,none⟩),.int .i64 t] w (Ret w0 fun v=>z5 .i64 v l*(knP b x c K0*G))):=by rw [hK0,hll];exact hH
 rw [hx,← hK0,← hll];rw [← hK0] at h0;rw [← hll] at hr1 hr2;have HK:=hid hK0;have hO:=hid (fun (k:Nat) (hk:k≤l.length)=>zhg (t:=t) h0 (by omega) hr2 hk);have hfin:=hO.out l.length (Nat.le_refl _);rw [List.take_length] at hfin;have hV:=hid (fun (w:World) (G:HP) (hs:Sat w0 w (knP b x c (K0.gives c t l)*G))=>z7c b x c _ hfin.1 w0 w G hs (by have:=hfin.2;omega));have Hr2:=hid hr2;have Hr1:=hid hr1;have Hl0:=hid hl0;have Cf:=hid cf;haveI:Lt t c.ts.length:=⟨ht⟩;have a1:=x.ta.ad_pos (show 0<c.ts.length by omega);have i1:(t:Int)<(c.ts.length:Int):=by omega
 have d1:decide (t<c.ts.length)=true:=decide_eq_true ht;clear h hx hr hr1 hr2 hl hl0 hK0 hll hfin cf h0
 go_enter Tryz.func101,Tryz.ntmps101
 go_wp2_with fail;refine (zd2 b x c (K.wSt t status) w0 _ _ own t (by omega)).mono ?_;rintro en w1 ⟨rfl,hs1⟩;simp only [Kn.wSt_R] at hs1;go_wp2_with fail;refine (hC.out _ _ z6).mono ?_;rintro en w2 ⟨rfl,hs2⟩;have hs3:Sat w0 w2 (knP b x c K0*F):=by rw [HK.out];exact hs2
 clear hs hs1 hs2 hC HK;go_wp2_with fail;refine (hH.out _ _ z6).mono ?_;rintro en w3 ⟨lv,rfl,hs4⟩;obtain ⟨la,lc,rfl⟩:=hs4.slice_form;clear hs3 hH;go_wp2_with fail
 go_loopw [36] (fun i wr=>∃ k:Nat,k≤l.length∧i=.int .i64 k∧Sat w0 wr (z5 .i64 (.slice la l.length lc) l*(knP b x c (K0.gives c t (l.take k))*F))) (fun i _=>l.length-(intOf i).toNat)
 case atStart=>exact ⟨0,Nat.zero_le _,rfl,hs4⟩
 case round =>
  obtain ⟨k,hk,rfl,hs5⟩:=hrel;clear hs4
  by_cases hlt:k<l.length
  ·obtain ⟨I,hlen2⟩:=hO.out k hk;have hnx:=hid (zdI (K:=K0) (c:=c) (t:=t) hlt);have hmr:=Hr2.out _ (List.getElem_mem hlt);obtain ⟨m,hv⟩:=Int.eq_ofNat_of_zero_le hmr.1;have hm32:m<32:=by rw [hv] at hmr;omega
   obtain ⟨K1,hK1⟩:∃ K1,K1=K0.gives c t (l.take k):=⟨_,rfl⟩;rw [← hK1] at I hlen2 hs5;rw [← hK1,hv] at hnx;have hnx:Hid ((K1.wL (zE K1.L t m)).handed c t m (zi K1.L t m).1=K0.gives c t (l.take (k+1))):=hnx;have hl32:=Hr1.out;clear hK1 hmr;have hl1:K1.told.length≤99900:=by have:=Hl0.out;have:=Hr1.out;omega
   clear hlen2;have hU:=hid (fun w G hs=>zd4 b x c K1 w0 w G hs I.L t m);have h3:=zk9 I t m;have hw:(zi K1.L t m).1=255∨∃ tn:Nat,(zi K1.L t m).1=tn∧z4A c (K1.wL (zE K1.L t m)) tn:=by
    rcases z7S I t m with e | ⟨tn,e1,e2,e3⟩
    ·exact .inl e
    ·refine .inr ⟨tn,e1,z2c h3 e2 ?_⟩;have e4:(K1.wL (zE K1.L t m)).T tn=K1.T tn:=rfl;rw [e4];omega
   have hHd:=hid (fun (w:World) (G:HP) (hs:Sat w0 w (knP b x c (K1.wL (zE K1.L t m))*G))=>zd0 b x c _ t m _ Cf.out (by omega) ⟨by omega,by omega⟩ hw w0 w G hs (by show K1.told.length≤99990;omega));obtain ⟨a7,cap7,g,off,e7,_,_,ha7,_⟩:=hs5.rdN;obtain ⟨rfl, -,rfl⟩:la=a7∧l.length=l.length∧lc=cap7:=by simpa using e7
   obtain rfl:=ha7 (by intro h;simp [h] at hlt);clear ha7 e7;haveI:Lt k l.length:=⟨hlt⟩;have d2:decide (k<l.length)=true:=decide_eq_true hlt;have i2:(k:Int)<(l.length:Int):=by omega
   clear I h3 hw;go_wp2_with fail;refine (hU.out _ _ own).mono ?_;rintro en w4 ⟨rfl,hs6⟩;clear hs5;go_wp2_with fail;refine (hHd.out _ _ z6).mono ?_;rintro en w5 ⟨rfl,hs7⟩;clear hs6;go_wp2_with fail;go_roundw
   case rel=>exact ⟨k+1,by omega,by go_num,by rw [← hnx.out];exact z3⟩
   case measure=>simp [intOf];omega
  ·have hk':k=l.length:=by omega
   subst hk';have d1:decide (l.length<l.length)=false:=by simp
   rw [List.take_length] at hs5;clear hO hlt;go_wp2_with fail;refine (hV.out _ _ own).mono ?_;rintro en w4 ⟨rfl,hs6⟩;go_wp2_with fail
   all_goals
    go_end0
    exact ⟨rfl,z3⟩
theorem zkP {K:Kn} {c:Cf} {who:Int} {s:Nat} (h:¬ K.postE s=0):K.post c who s=K:=by
 unfold Kn.post;exact if_pos h
theorem zc5 (K:Kn) (s:Nat):0≤K.postE s∧K.postE s≤16:=by
 unfold Kn.postE postE;repeat' split
 all_goals simp
theorem zin {z:Int} (h:zG z):∃ n:Nat,z=n∧n<4294967296:=⟨z.toNat,by have:=h.1;omega,by have:=h.1;have:=h.2;omega⟩
theorem zbL (b:Nat) (x:Fx) (c:Cf) (K:Kn) (who cb co:Nat) (hcx:z4b b x c cb co who) (i:Ins) (hi:zI i) (h:Inv c K) (ho:i.op=21) (value:Int) (hvl:zG value) (w0 w:World) (F:HP) (hs:Sat w0 w (knP b x c K*F)) (hl:K.told.length≤99900) :
  Calls Tryz.prog 96 #[.pointer (some ⟨b,0,none⟩),.int .i64 who,.pointer (some ⟨cb,co,none⟩),z22 i,.int .u32 value] w (zp w0 (.tuple #[]) (knP b x c (K.shared c who i value)*F)):=by
 have cf:=h.cf;have hns:=cf.ns;have hnq:=cf.nq;have hwo:=zP hcx;have hw80:=z25 h hwo;have hv0:=hvl.1;have hv1:=hvl.2;have hRf:=hid (fun (e:Int) (he:0≤e∧e≤16) (w:World) (G:HP) (hs:Sat w0 w (knP b x c K*G))=>zV b x c K who cb co hcx i hi e he w0 w G hs cf hw80 (by omega));obtain ⟨k,hk⟩:=Int.eq_ofNat_of_zero_le (show 0≤i.k from hi.k.1);have hk32:(k:Int)<4294967296:=by rw [← hk];exact hi.k.2
 have u1:IntKind.u64.wrap (k:Int)=k:=by rw [IntKind.wrap_u64];omega
 have u5:IntKind.i64.wrap (k:Int)=k:=by rw [IntKind.wrap_i64];omega
 obtain ⟨a,ha⟩:=Int.eq_ofNat_of_zero_le (show 0≤i.a from hi.a.1);have ha8:a<8:=by have:=hi.a.2;omega
 haveI:Lt a 8:=⟨ha8⟩;have d2:decide (a<8)=true:=decide_eq_true ha8;have i2:(a:Int)<8:=by omega
 have hra:=z0K h hwo a;obtain ⟨r1,hr⟩:∃ r1,r1=(K.reads+1)%18446744073709551616:=⟨_,rfl⟩;have hx:K.shared c who i value=((K.wReads r1).put who a value).tell c 2 k who value:=by
  unfold Kn.shared;rw [if_pos ho,hr,← hk,← ha];rfl
 rw [hx];have w1:IntKind.u64.wrap (K.reads+1)=r1:=by rw [IntKind.wrap_u64,hr]
 have w2:(K.reads+1)%18446744073709551616=r1:=hr.symm;have hT:=hid (fun (kI:Int) (hk:kI=2) (w:World) (G:HP) (hs:Sat w0 w (knP b x c ((K.wReads r1).put who a value)*G))=>zN b x c _ 2 kI hk k who value w0 w G hs cf (by decide) ⟨by omega,by omega⟩ ⟨by omega,by omega⟩ hvl (by rw [zQ];show K.told.length≤100000;omega));clear hRf hi h cf hl hvl hx hr hra;obtain ⟨op,a',b',c',d,k'⟩:=i;have hk:k'=k:=hk;have ha:a'=a:=ha;have ho:op=21:=ho;subst hk ha ho
 go_enter Tryz.func96,Tryz.ntmps96
 go_wp2_with fail;refine z9 (w0:=w0) ?_;intro wx hsx;go_still_tail 7,(by kernel_rfl);change wpList _ _ _ _ _ wx.drew;go_wp2_with fail;refine (hT.out _ rfl _ _ own).mono ?_;rintro en w1 ⟨rfl,hs1⟩;go_wp2_with fail
 go_end0
 exact ⟨rfl,z3⟩
theorem zat (b:Nat) (x:Fx) (c:Cf) (K:Kn) (who cb co:Nat) (hcx:z4b b x c cb co who) (i:Ins) (hi:zI i) (h:Inv c K) (ho:i.op=22) (value:Int) (hvl:zG value) (w0 w:World) (F:HP) (hs:Sat w0 w (knP b x c K*F)) (hl:K.told.length≤99900) :
  Calls Tryz.prog 96 #[.pointer (some ⟨b,0,none⟩),.int .i64 who,.pointer (some ⟨cb,co,none⟩),z22 i,.int .u32 value] w (zp w0 (.tuple #[]) (knP b x c (K.shared c who i value)*F)):=by
 have cf:=h.cf;have hns:=cf.ns;have hnq:=cf.nq;have hwo:=zP hcx;have hw80:=z25 h hwo;have hv0:=hvl.1;have hv1:=hvl.2;have hRf:=hid (fun (e:Int) (he:0≤e∧e≤16) (w:World) (G:HP) (hs:Sat w0 w (knP b x c K*G))=>zV b x c K who cb co hcx i hi e he w0 w G hs cf hw80 (by omega));obtain ⟨k,hk⟩:=Int.eq_ofNat_of_zero_le (show 0≤i.k from hi.k.1);have hk32:(k:Int)<4294967296:=by rw [← hk];exact hi.k.2
 have u1:IntKind.u64.wrap (k:Int)=k:=by rw [IntKind.wrap_u64];omega
 have u5:IntKind.i64.wrap (k:Int)=k:=by rw [IntKind.wrap_i64];omega
 obtain ⟨a,ha⟩:=Int.eq_ofNat_of_zero_le (show 0≤i.a from hi.a.1);have ha8:a<8:=by have:=hi.a.2;omega
 haveI:Lt a 8:=⟨ha8⟩;have d2:decide (a<8)=true:=decide_eq_true ha8;have i2:(a:Int)<8:=by omega
 have hra:=z0K h hwo a;have hx:K.shared c who i value=K.tell c 20 k who (K.reg who a):=by
  unfold Kn.shared;rw [if_neg (by omega),if_pos ho,← hk,← ha]
 rw [hx];have hT:=hid (fun (kI:Int) (hk:kI=20) (w:World) (G:HP) (hs:Sat w0 w (knP b x c K*G))=>zN b x c _ 20 kI hk k who (K.reg who a) w0 w G hs cf (by decide) ⟨by omega,by omega⟩ ⟨by omega,by omega⟩ hra (by omega));clear hRf hi h cf hl hvl hx hra;obtain ⟨op,a',b',c',d,k'⟩:=i;have hk:k'=k:=hk;have ha:a'=a:=ha;have ho:op=22:=ho;subst hk ha ho
 go_enter Tryz.func96,Tryz.ntmps96
 go_wp2_with fail;refine z9 (w0:=w0) ?_;intro wx hsx;go_still_tail 12,(by kernel_rfl);change wpList _ _ _ _ _ wx.drew;go_wp2_with fail;refine (hT.out _ rfl _ _ own).mono ?_;rintro en w1 ⟨rfl,hs1⟩;go_wp2_with fail
 go_end0
 exact ⟨rfl,z3⟩
theorem z93 (b:Nat) (x:Fx) (c:Cf) (K:Kn) (who cb co:Nat) (hcx:z4b b x c cb co who) (i:Ins) (hi:zI i) (h:Inv c K) (ho:i.op=23) (value:Int) (hvl:zG value) (w0 w:World) (F:HP) (hs:Sat w0 w (knP b x c K*F)) (hl:K.told.length≤99900) :
  Calls Tryz.prog 96 #[.pointer (some ⟨b,0,none⟩),.int .i64 who,.pointer (some ⟨cb,co,none⟩),z22 i,.int .u32 value] w (zp w0 (.tuple #[]) (knP b x c (K.shared c who i value)*F)):=by
 have cf:=h.cf;have hns:=cf.ns;have hnq:=cf.nq;have hwo:=zP hcx;have hw80:=z25 h hwo;have hv0:=hvl.1;have hv1:=hvl.2;have hRf:=hid (fun (e:Int) (he:0≤e∧e≤16) (w:World) (G:HP) (hs:Sat w0 w (knP b x c K*G))=>zV b x c K who cb co hcx i hi e he w0 w G hs cf hw80 (by omega));obtain ⟨k,hk⟩:=Int.eq_ofNat_of_zero_le (show 0≤i.k from hi.k.1);have hk32:(k:Int)<4294967296:=by rw [← hk];exact hi.k.2
 have u1:IntKind.u64.wrap (k:Int)=k:=by rw [IntKind.wrap_u64];omega
 have u5:IntKind.i64.wrap (k:Int)=k:=by rw [IntKind.wrap_i64];omega
 obtain ⟨a,ha⟩:=Int.eq_ofNat_of_zero_le (show 0≤i.a from hi.a.1);have ha8:a<8:=by have:=hi.a.2;omega
 haveI:Lt a 8:=⟨ha8⟩;have d2:decide (a<8)=true:=decide_eq_true ha8;have i2:(a:Int)<8:=by omega
 have hra:=z0K h hwo a;obtain ⟨y,hy,hy32⟩:=zin hra;have hx:K.shared c who i value=K.wLn (K.ln.let_ y):=by
  unfold Kn.shared;rw [if_neg (by omega),if_neg (by omega),if_pos ho,ha,hy];rfl
 rw [hx];have hT:=hid (fun w G hs=>zma b x c K w0 w G hs (z6o h) y hy32);clear hRf hi h cf hl hvl hx hra;obtain ⟨op,a',b',c',d,k'⟩:=i;have hk:k'=k:=hk;have ha:a'=a:=ha;have ho:op=23:=ho;subst hk ha ho
 go_enter Tryz.func96,Tryz.ntmps96
 go_wp2_with fail;refine z9 (w0:=w0) ?_;intro wx hsx;go_still_tail 11,(by kernel_rfl);change wpList _ _ _ _ _ wx.drew;go_wp2_with fail;refine (hT.out _ _ own).mono ?_;rintro en w1 ⟨rfl,hs1⟩;go_wp2_with fail
 go_end0
 exact ⟨rfl,z3⟩
theorem z96 (b:Nat) (x:Fx) (c:Cf) (K:Kn) (who cb co:Nat) (hcx:z4b b x c cb co who) (i:Ins) (hi:zI i) (h:Inv c K) (ho:i.op=24) (value:Int) (hvl:zG value) (w0 w:World) (F:HP) (hs:Sat w0 w (knP b x c K*F)) (hl:K.told.length≤99900) :
  Calls Tryz.prog 96 #[.pointer (some ⟨b,0,none⟩),.int .i64 who,.pointer (some ⟨cb,co,none⟩),z22 i,.int .u32 value] w (zp w0 (.tuple #[]) (knP b x c (K.shared c who i value)*F)):=by
 have cf:=h.cf;have hns:=cf.ns;have hnq:=cf.nq;have hwo:=zP hcx;have hw80:=z25 h hwo;have hv0:=hvl.1;have hv1:=hvl.2;have hRf:=hid (fun (e:Int) (he:0≤e∧e≤16) (w:World) (G:HP) (hs:Sat w0 w (knP b x c K*G))=>zV b x c K who cb co hcx i hi e he w0 w G hs cf hw80 (by omega));obtain ⟨k,hk⟩:=Int.eq_ofNat_of_zero_le (show 0≤i.k from hi.k.1);have hk32:(k:Int)<4294967296:=by rw [← hk];exact hi.k.2
 have u1:IntKind.u64.wrap (k:Int)=k:=by rw [IntKind.wrap_u64];omega
 have u5:IntKind.i64.wrap (k:Int)=k:=by rw [IntKind.wrap_i64];omega
 obtain ⟨a,ha⟩:=Int.eq_ofNat_of_zero_le (show 0≤i.a from hi.a.1);have ha8:a<8:=by have:=hi.a.2;omega
 haveI:Lt a 8:=⟨ha8⟩;have d2:decide (a<8)=true:=decide_eq_true ha8;have i2:(a:Int)<8:=by omega
 have hra:=z0K h hwo a;obtain ⟨r,hr⟩:∃ r:Nat,r=who%64:=⟨_,rfl⟩;have hx:K.shared c who i value=K.put who a r:=by
  unfold Kn.shared;rw [if_neg (by omega),if_neg (by omega),if_neg (by omega),if_pos ho,ha,hr]
 rw [hx];have w1:Int.tmod (who:Int) 64=r:=by rw [zgm,hr]
 have w2:IntKind.u32.wrap (r:Int)=r:=by rw [IntKind.wrap_u32];omega
 have w3:IntKind.i64.wrap (r:Int)=r:=by rw [IntKind.wrap_i64];omega
 have w4:(r:Int)%4294967296=r:=by omega
 clear hRf hi h cf hl hvl hx hra hr;obtain ⟨op,a',b',c',d,k'⟩:=i;have hk:k'=k:=hk;have ha:a'=a:=ha;have ho:op=24:=ho;subst hk ha ho
 go_enter Tryz.func96,Tryz.ntmps96
 go_wp2_with fail;refine z9 (w0:=w0) ?_;intro wx hsx;go_still_tail 9,(by kernel_rfl);change wpList _ _ _ _ _ wx.drew;go_wp2_with fail
 go_end0
 exact ⟨rfl,z3⟩
theorem zar (b:Nat) (x:Fx) (c:Cf) (K:Kn) (who cb co:Nat) (hcx:z4b b x c cb co who) (i:Ins) (hi:zI i) (h:Inv c K) (ho:i.op=25) (value:Int) (hvl:zG value) (w0 w:World) (F:HP) (hs:Sat w0 w (knP b x c K*F)) (hl:K.told.length≤99900) :
  Calls Tryz.prog 96 #[.pointer (some ⟨b,0,none⟩),.int .i64 who,.pointer (some ⟨cb,co,none⟩),z22 i,.int .u32 value] w (zp w0 (.tuple #[]) (knP b x c (K.shared c who i value)*F)):=by
 have cf:=h.cf;have hns:=cf.ns;have hnq:=cf.nq;have hwo:=zP hcx;have hw80:=z25 h hwo;have hv0:=hvl.1;have hv1:=hvl.2;have hRf:=hid (fun (e:Int) (he:0≤e∧e≤16) (w:World) (G:HP) (hs:Sat w0 w (knP b x c K*G))=>zV b x c K who cb co hcx i hi e he w0 w G hs cf hw80 (by omega));obtain ⟨k,hk⟩:=Int.eq_ofNat_of_zero_le (show 0≤i.k from hi.k.1);have hk32:(k:Int)<4294967296:=by rw [← hk];exact hi.k.2
 have u1:IntKind.u64.wrap (k:Int)=k:=by rw [IntKind.wrap_u64];omega
 have u5:IntKind.i64.wrap (k:Int)=k:=by rw [IntKind.wrap_i64];omega
 obtain ⟨a,ha⟩:=Int.eq_ofNat_of_zero_le (show 0≤i.a from hi.a.1);have ha8:a<8:=by have:=hi.a.2;omega
 haveI:Lt a 8:=⟨ha8⟩;have d2:decide (a<8)=true:=decide_eq_true ha8;have i2:(a:Int)<8:=by omega
 have hra:=z0K h hwo a;obtain ⟨r,hr⟩:∃ r,r=K.count%4294967296:=⟨_,rfl⟩;have hx:K.shared c who i value=K.put who a r:=by
  unfold Kn.shared;rw [if_neg (by omega),if_neg (by omega),if_neg (by omega),if_neg (by omega),if_pos ho,ha,hr]
 rw [hx];have w1:IntKind.u32.wrap K.count=r:=by rw [IntKind.wrap_u32,hr]
 have w4:K.count%4294967296=r:=hr.symm;clear hRf hi h cf hl hvl hx hra hr;obtain ⟨op,a',b',c',d,k'⟩:=i;have hk:k'=k:=hk;have ha:a'=a:=ha;have ho:op=25:=ho;subst hk ha ho
 go_enter Tryz.func96,Tryz.ntmps96
 go_wp2_with fail;refine z9 (w0:=w0) ?_;intro wx hsx;go_still_tail 12,(by kernel_rfl);change wpList _ _ _ _ _ wx.drew;go_wp2_with fail
 go_end0
 exact ⟨rfl,z3⟩
theorem z5q (b:Nat) (x:Fx) (c:Cf) (K:Kn) (who cb co:Nat) (hcx:z4b b x c cb co who) (i:Ins) (hi:zI i) (h:Inv c K) (ho:i.op=26) (h1:(c.sems.length:Int)≤i.k) (value:Int) (hvl:zG value) (w0 w:World) (F:HP) (hs:Sat w0 w (knP b x c K*F)) (hl:K.told.length≤99900) :
  Calls Tryz.prog 96 #[.pointer (some ⟨b,0,none⟩),.int .i64 who,.pointer (some ⟨cb,co,none⟩),z22 i,.int .u32 value] w (zp w0 (.tuple #[]) (knP b x c (K.shared c who i value)*F)):=by
 have cf:=h.cf;have hns:=cf.ns;have hnq:=cf.nq;have hwo:=zP hcx;have hw80:=z25 h hwo;have hv0:=hvl.1;have hv1:=hvl.2;have hRf:=hid (fun (e:Int) (he:0≤e∧e≤16) (w:World) (G:HP) (hs:Sat w0 w (knP b x c K*G))=>zV b x c K who cb co hcx i hi e he w0 w G hs cf hw80 (by omega));obtain ⟨k,hk⟩:=Int.eq_ofNat_of_zero_le (show 0≤i.k from hi.k.1);have hk32:(k:Int)<4294967296:=by rw [← hk];exact hi.k.2
 have u1:IntKind.u64.wrap (k:Int)=k:=by rw [IntKind.wrap_u64];omega
 have u5:IntKind.i64.wrap (k:Int)=k:=by rw [IntKind.wrap_i64];omega
 obtain ⟨a,ha⟩:=Int.eq_ofNat_of_zero_le (show 0≤i.a from hi.a.1);have ha8:a<8:=by have:=hi.a.2;omega
 haveI:Lt a 8:=⟨ha8⟩;have d2:decide (a<8)=true:=decide_eq_true ha8;have i2:(a:Int)<8:=by omega
 have hra:=z0K h hwo a;have u2:IntKind.u64.wrap (c.sems.length:Int)=c.sems.length:=by rw [IntKind.wrap_u64];omega
 have hx:K.shared c who i value=K.refuse c who i 15:=by
  unfold Kn.shared;rw [if_neg (by omega),if_neg (by omega),if_neg (by omega),if_neg (by omega),if_neg (by omega),if_pos ho,if_pos h1]
 rw [hx];have d0:decide (k<c.sems.length)=false:=by rw [hk] at h1;simp;omega
 have hR:=hid (hRf.out 15 (by decide));clear hRf hi h cf hl hvl hx hra h1;obtain ⟨op,a',b',c',d,k'⟩:=i;have hk:k'=k:=hk;have ha:a'=a:=ha;have ho:op=26:=ho;subst hk ha ho
 go_enter Tryz.func96,Tryz.ntmps96
 go_wp2_with fail;go_quiet (fail);go_wp2_with fail;refine (hR.out _ _ own).mono ?_;rintro en w1 ⟨rfl,hs1⟩;go_wp2_with fail
 go_end0
 exact ⟨rfl,z3⟩
theorem z7e (b:Nat) (x:Fx) (c:Cf) (K:Kn) (who cb co:Nat) (hcx:z4b b x c cb co who) (i:Ins) (hi:zI i) (h:Inv c K) (ho:i.op=26) (h1:¬ (c.sems.length:Int)≤i.k) (h2:¬ K.postE i.k.toNat=0) (value:Int) (hvl:zG value) (w0 w:World) (F:HP) (hs:Sat w0 w (knP b x c K*F)) (hl:K.told.length≤99900) :
  Calls Tryz.prog 96 #[.pointer (some ⟨b,0,none⟩),.int .i64 who,.pointer (some ⟨cb,co,none⟩),z22 i,.int .u32 value] w (zp w0 (.tuple #[]) (knP b x c (K.shared c who i value)*F)):=by
 have cf:=h.cf;have hns:=cf.ns;have hnq:=cf.nq;have hwo:=zP hcx;have hw80:=z25 h hwo;have hv0:=hvl.1;have hv1:=hvl.2;have hRf:=hid (fun (e:Int) (he:0≤e∧e≤16) (w:World) (G:HP) (hs:Sat w0 w (knP b x c K*G))=>zV b x c K who cb co hcx i hi e he w0 w G hs cf hw80 (by omega));obtain ⟨k,hk⟩:=Int.eq_ofNat_of_zero_le (show 0≤i.k from hi.k.1);have hk32:(k:Int)<4294967296:=by rw [← hk];exact hi.k.2
 have u1:IntKind.u64.wrap (k:Int)=k:=by rw [IntKind.wrap_u64];omega
 have u5:IntKind.i64.wrap (k:Int)=k:=by rw [IntKind.wrap_i64];omega
 obtain ⟨a,ha⟩:=Int.eq_ofNat_of_zero_le (show 0≤i.a from hi.a.1);have ha8:a<8:=by have:=hi.a.2;omega
 haveI:Lt a 8:=⟨ha8⟩;have d2:decide (a<8)=true:=decide_eq_true ha8;have i2:(a:Int)<8:=by omega
 have hra:=z0K h hwo a;have u2:IntKind.u64.wrap (c.sems.length:Int)=c.sems.length:=by rw [IntKind.wrap_u64];omega
 have hki:i.k.toNat=k:=by omega
 have hkl:k<c.sems.length:=by rw [hk] at h1;omega
 have d0:decide (k<c.sems.length)=true:=by simp;omega
 have hP:=hid (fun (w:World) (G:HP) (hs:Sat w0 w (knP b x c K*G))=>zfk b x c K who k h ⟨by omega,by omega⟩ hkl w0 w G hs (by omega));rw [hki] at h2;obtain ⟨z,hz⟩:∃ z,z=K.postE k:=⟨_,rfl⟩;have hx:K.shared c who i value=K.refuse c who i z:=by
  unfold Kn.shared;rw [if_neg (by omega),if_neg (by omega),if_neg (by omega),if_neg (by omega),if_neg (by omega),if_pos ho,if_neg h1,hki,if_pos h2,hz]
 rw [hx];rw [zkP h2,← hz] at hP;have hR:=hid (hRf.out z (by rw [hz];exact zc5 K k));have z1:(z != 0)=true:=by rw [hz];simpa using h2
 clear hRf hi h cf hl hvl hx hra h1 h2 hki hz;obtain ⟨op,a',b',c',d,k'⟩:=i;have hk:k'=k:=hk;have ha:a'=a:=ha;have ho:op=26:=ho;subst hk ha ho
 go_enter Tryz.func96,Tryz.ntmps96
 go_wp2_with fail;go_quiet (fail);go_wp2_with fail;refine (hP.out _ _ own).mono ?_;rintro en w1 ⟨rfl,hs1⟩;go_wp2_with fail;refine (hR.out _ _ z6).mono ?_;rintro en w2 ⟨rfl,hs2⟩;go_wp2_with fail
 go_end0
 exact ⟨rfl,z3⟩
theorem z94 (b:Nat) (x:Fx) (c:Cf) (K:Kn) (who cb co:Nat) (hcx:z4b b x c cb co who) (i:Ins) (hi:zI i) (h:Inv c K) (ho:i.op=26) (h1:¬ (c.sems.length:Int)≤i.k) (h2:K.postE i.k.toNat=0) (value:Int) (hvl:zG value) (w0 w:World) (F:HP) (hs:Sat w0 w (knP b x c K*F)) (hl:K.told.length≤99900) :
  Calls Tryz.prog 96 #[.pointer (some ⟨b,0,none⟩),.int .i64 who,.pointer (some ⟨cb,co,none⟩),z22 i,.int .u32 value] w (zp w0 (.tuple #[]) (knP b x c (K.shared c who i value)*F)):=by
 have cf:=h.cf;have hns:=cf.ns;have hnq:=cf.nq;have hwo:=zP hcx;have hw80:=z25 h hwo;have hv0:=hvl.1;have hv1:=hvl.2;have hRf:=hid (fun (e:Int) (he:0≤e∧e≤16) (w:World) (G:HP) (hs:Sat w0 w (knP b x c K*G))=>zV b x c K who cb co hcx i hi e he w0 w G hs cf hw80 (by omega));obtain ⟨k,hk⟩:=Int.eq_ofNat_of_zero_le (show 0≤i.k from hi.k.1);have hk32:(k:Int)<4294967296:=by rw [← hk];exact hi.k.2
 have u1:IntKind.u64.wrap (k:Int)=k:=by rw [IntKind.wrap_u64];omega
 have u5:IntKind.i64.wrap (k:Int)=k:=by rw [IntKind.wrap_i64];omega
 obtain ⟨a,ha⟩:=Int.eq_ofNat_of_zero_le (show 0≤i.a from hi.a.1);have ha8:a<8:=by have:=hi.a.2;omega
 haveI:Lt a 8:=⟨ha8⟩;have d2:decide (a<8)=true:=decide_eq_true ha8;have i2:(a:Int)<8:=by omega
 have hra:=z0K h hwo a;have u2:IntKind.u64.wrap (c.sems.length:Int)=c.sems.length:=by rw [IntKind.wrap_u64];omega
 have hki:i.k.toNat=k:=by omega
 have hkl:k<c.sems.length:=by rw [hk] at h1;omega
 have d0:decide (k<c.sems.length)=true:=by simp;omega
 have hP:=hid (fun (w:World) (G:HP) (hs:Sat w0 w (knP b x c K*G))=>zfk b x c K who k h ⟨by omega,by omega⟩ hkl w0 w G hs (by omega));rw [hki] at h2;have hx:K.shared c who i value=(K.post c who k).put who a 0:=by
  unfold Kn.shared;rw [if_neg (by omega),if_neg (by omega),if_neg (by omega),if_neg (by omega),if_neg (by omega),if_pos ho,if_neg h1,hki,if_neg (by simp [h2]),ha]
 rw [hx];rw [h2] at hP;clear hRf hi h cf hl hvl hx hra h1 h2 hki;obtain ⟨op,a',b',c',d,k'⟩:=i;have hk:k'=k:=hk;have ha:a'=a:=ha;have ho:op=26:=ho;subst hk ha ho
 go_enter Tryz.func96,Tryz.ntmps96
 go_wp2_with fail;go_quiet (fail);go_wp2_with fail;refine (hP.out _ _ own).mono ?_;rintro en w1 ⟨rfl,hs1⟩;go_wp2_with fail;refine z9 (w0:=w0) ?_;intro wx hsx;go_still_tail 6,(by kernel_rfl);change wpList _ _ _ _ _ wx.drew;go_wp2_with fail
 go_end0
 exact ⟨rfl,z3⟩
theorem z5s (b:Nat) (x:Fx) (c:Cf) (K:Kn) (who cb co:Nat) (hcx:z4b b x c cb co who) (i:Ins) (hi:zI i) (h:Inv c K) (ho:i.op=27) (h1:(c.queues.length:Int)≤i.k) (value:Int) (hvl:zG value) (w0 w:World) (F:HP) (hs:Sat w0 w (knP b x c K*F)) (hl:K.told.length≤99900) :
  Calls Tryz.prog 96 #[.pointer (some ⟨b,0,none⟩),.int .i64 who,.pointer (some ⟨cb,co,none⟩),z22 i,.int .u32 value] w (zp w0 (.tuple #[]) (knP b x c (K.shared c who i value)*F)):=by
 have cf:=h.cf;have hns:=cf.ns;have hnq:=cf.nq;have hwo:=zP hcx;have hw80:=z25 h hwo;have hv0:=hvl.1;have hv1:=hvl.2;have hRf:=hid (fun (e:Int) (he:0≤e∧e≤16) (w:World) (G:HP) (hs:Sat w0 w (knP b x c K*G))=>zV b x c K who cb co hcx i hi e he w0 w G hs cf hw80 (by omega));obtain ⟨k,hk⟩:=Int.eq_ofNat_of_zero_le (show 0≤i.k from hi.k.1);have hk32:(k:Int)<4294967296:=by rw [← hk];exact hi.k.2
 have u1:IntKind.u64.wrap (k:Int)=k:=by rw [IntKind.wrap_u64];omega
 have u5:IntKind.i64.wrap (k:Int)=k:=by rw [IntKind.wrap_i64];omega
 obtain ⟨a,ha⟩:=Int.eq_ofNat_of_zero_le (show 0≤i.a from hi.a.1);have ha8:a<8:=by have:=hi.a.2;omega
 haveI:Lt a 8:=⟨ha8⟩;have d2:decide (a<8)=true:=decide_eq_true ha8;have i2:(a:Int)<8:=by omega
 have hra:=z0K h hwo a;have u2:IntKind.u64.wrap (c.queues.length:Int)=c.queues.length:=by rw [IntKind.wrap_u64];omega
 have hx:K.shared c who i value=K.refuse c who i 15:=by
  unfold Kn.shared;rw [if_neg (by omega),if_neg (by omega),if_neg (by omega),if_neg (by omega),if_neg (by omega),if_neg (by omega),if_pos (by omega),if_pos h1]
 rw [hx];have d0:decide (c.queues.length≤k)=true:=by rw [hk] at h1;simp;omega
 have hR:=hid (hRf.out 15 (by decide));clear hRf hi h cf hl hvl hx hra h1;obtain ⟨op,a',b',c',d,k'⟩:=i;have hk:k'=k:=hk;have ha:a'=a:=ha;have ho:op=27:=ho;subst hk ha ho
 go_enter Tryz.func96,Tryz.ntmps96
 go_wp2_with fail;go_quiet (fail);go_wp2_with fail;refine (hR.out _ _ own).mono ?_;rintro en w1 ⟨rfl,hs1⟩;go_wp2_with fail
 go_end0
 exact ⟨rfl,z3⟩
theorem z97 (b:Nat) (x:Fx) (c:Cf) (K:Kn) (who cb co:Nat) (hcx:z4b b x c cb co who) (i:Ins) (hi:zI i) (h:Inv c K) (ho:i.op=27) (hm:64≤who→i.d=1) (h1:¬ (c.queues.length:Int)≤i.k) (value:Int) (hvl:zG value) (w0 w:World) (F:HP) (hs:Sat w0 w (knP b x c K*F)) (hl:K.told.length≤99900) :
  Calls Tryz.prog 96 #[.pointer (some ⟨b,0,none⟩),.int .i64 who,.pointer (some ⟨cb,co,none⟩),z22 i,.int .u32 value] w (zp w0 (.tuple #[]) (knP b x c (K.shared c who i value)*F)):=by
 have cf:=h.cf;have hns:=cf.ns;have hnq:=cf.nq;have hwo:=zP hcx;have hw80:=z25 h hwo;have hv0:=hvl.1;have hv1:=hvl.2;have hRf:=hid (fun (e:Int) (he:0≤e∧e≤16) (w:World) (G:HP) (hs:Sat w0 w (knP b x c K*G))=>zV b x c K who cb co hcx i hi e he w0 w G hs cf hw80 (by omega));obtain ⟨k,hk⟩:=Int.eq_ofNat_of_zero_le (show 0≤i.k from hi.k.1);have hk32:(k:Int)<4294967296:=by rw [← hk];exact hi.k.2
 have u1:IntKind.u64.wrap (k:Int)=k:=by rw [IntKind.wrap_u64];omega
 have u5:IntKind.i64.wrap (k:Int)=k:=by rw [IntKind.wrap_i64];omega
 obtain ⟨a,ha⟩:=Int.eq_ofNat_of_zero_le (show 0≤i.a from hi.a.1);have ha8:a<8:=by have:=hi.a.2;omega
 haveI:Lt a 8:=⟨ha8⟩;have d2:decide (a<8)=true:=decide_eq_true ha8;have i2:(a:Int)<8:=by omega
 have hra:=z0K h hwo a;have u2:IntKind.u64.wrap (c.queues.length:Int)=c.queues.length:=by rw [IntKind.wrap_u64];omega
 have hx:K.shared c who i value=K.send c who i:=by
  unfold Kn.shared;rw [if_neg (by omega),if_neg (by omega),if_neg (by omega),if_neg (by omega),if_neg (by omega),if_neg (by omega),if_pos (by omega),if_neg h1,if_pos ho]
 rw [hx];have hkl:k<c.queues.length:=by rw [hk] at h1;omega
 have d0:decide (c.queues.length≤k)=false:=by simp;omega
 have hS:=hid (fun (w:World) (G:HP) (hs:Sat w0 w (knP b x c K*G))=>show Calls Tryz.prog 116 _ w (zp w0 (.tuple #[]) (knP b x c (K.send c who i)*G)) from if e:(K.ml k).sendE=0 then zfs b x c K who cb co hcx i hi h k hk hkl e w0 w G hs (by omega) else zfr b x c K who cb co hcx i hi h hm k hk hkl e w0 w G hs (by omega));clear hRf hi h cf hl hvl hx hra h1 hm;obtain ⟨op,a',b',c',d,k'⟩:=i;have hk:k'=k:=hk;have ha:a'=a:=ha;have ho:op=27:=ho;subst hk ha ho
 go_enter Tryz.func96,Tryz.ntmps96
 go_wp2_with fail;go_quiet (fail);go_wp2_with fail;refine (hS.out _ _ own).mono ?_;rintro en w1 ⟨rfl,hs1⟩;go_wp2_with fail
 go_end0
 exact ⟨rfl,z3⟩
theorem z5r (b:Nat) (x:Fx) (c:Cf) (K:Kn) (who cb co:Nat) (hcx:z4b b x c cb co who) (i:Ins) (hi:zI i) (h:Inv c K) (ho:i.op=28) (h1:(c.queues.length:Int)≤i.k) (value:Int) (hvl:zG value) (w0 w:World) (F:HP) (hs:Sat w0 w (knP b x c K*F)) (hl:K.told.length≤99900) :
  Calls Tryz.prog 96 #[.pointer (some ⟨b,0,none⟩),.int .i64 who,.pointer (some ⟨cb,co,none⟩),z22 i,.int .u32 value] w (zp w0 (.tuple #[]) (knP b x c (K.shared c who i value)*F)):=by
 have cf:=h.cf;have hns:=cf.ns;have hnq:=cf.nq;have hwo:=zP hcx;have hw80:=z25 h hwo;have hv0:=hvl.1;have hv1:=hvl.2;have hRf:=hid (fun (e:Int) (he:0≤e∧e≤16) (w:World) (G:HP) (hs:Sat w0 w (knP b x c K*G))=>zV b x c K who cb co hcx i hi e he w0 w G hs cf hw80 (by omega));obtain ⟨k,hk⟩:=Int.eq_ofNat_of_zero_le (show 0≤i.k from hi.k.1);have hk32:(k:Int)<4294967296:=by rw [← hk];exact hi.k.2
 have u1:IntKind.u64.wrap (k:Int)=k:=by rw [IntKind.wrap_u64];omega
 have u5:IntKind.i64.wrap (k:Int)=k:=by rw [IntKind.wrap_i64];omega
 obtain ⟨a,ha⟩:=Int.eq_ofNat_of_zero_le (show 0≤i.a from hi.a.1);have ha8:a<8:=by have:=hi.a.2;omega
 haveI:Lt a 8:=⟨ha8⟩;have d2:decide (a<8)=true:=decide_eq_true ha8;have i2:(a:Int)<8:=by omega
 have hra:=z0K h hwo a;have u2:IntKind.u64.wrap (c.queues.length:Int)=c.queues.length:=by rw [IntKind.wrap_u64];omega
 have hx:K.shared c who i value=K.refuse c who i 15:=by
  unfold Kn.shared;rw [if_neg (by omega),if_neg (by omega),if_neg (by omega),if_neg (by omega),if_neg (by omega),if_neg (by omega),if_pos (by omega),if_pos h1]
 rw [hx];have d0:decide (c.queues.length≤k)=true:=by rw [hk] at h1;simp;omega
 have hR:=hid (hRf.out 15 (by decide));clear hRf hi h cf hl hvl hx hra h1;obtain ⟨op,a',b',c',d,k'⟩:=i;have hk:k'=k:=hk;have ha:a'=a:=ha;have ho:op=28:=ho;subst hk ha ho
 go_enter Tryz.func96,Tryz.ntmps96
 go_wp2_with fail;go_quiet (fail);go_wp2_with fail;refine (hR.out _ _ own).mono ?_;rintro en w1 ⟨rfl,hs1⟩;go_wp2_with fail
 go_end0
 exact ⟨rfl,z3⟩
theorem z95 (b:Nat) (x:Fx) (c:Cf) (K:Kn) (who cb co:Nat) (hcx:z4b b x c cb co who) (i:Ins) (hi:zI i) (h:Inv c K) (ho:i.op=28) (hm:64≤who→i.d=1) (h1:¬ (c.queues.length:Int)≤i.k) (value:Int) (hvl:zG value) (w0 w:World) (F:HP) (hs:Sat w0 w (knP b x c K*F)) (hl:K.told.length≤99900) :
  Calls Tryz.prog 96 #[.pointer (some ⟨b,0,none⟩),.int .i64 who,.pointer (some ⟨cb,co,none⟩),z22 i,.int .u32 value] w (zp w0 (.tuple #[]) (knP b x c (K.shared c who i value)*F)):=by
 have cf:=h.cf;have hns:=cf.ns;have hnq:=cf.nq;have hwo:=zP hcx;have hw80:=z25 h hwo;have hv0:=hvl.1;have hv1:=hvl.2;have hRf:=hid (fun (e:Int) (he:0≤e∧e≤16) (w:World) (G:HP) (hs:Sat w0 w (knP b x c K*G))=>zV b x c K who cb co hcx i hi e he w0 w G hs cf hw80 (by omega));obtain ⟨k,hk⟩:=Int.eq_ofNat_of_zero_le (show 0≤i.k from hi.k.1);have hk32:(k:Int)<4294967296:=by rw [← hk];exact hi.k.2
 have u1:IntKind.u64.wrap (k:Int)=k:=by rw [IntKind.wrap_u64];omega
 have u5:IntKind.i64.wrap (k:Int)=k:=by rw [IntKind.wrap_i64];omega
 obtain ⟨a,ha⟩:=Int.eq_ofNat_of_zero_le (show 0≤i.a from hi.a.1);have ha8:a<8:=by have:=hi.a.2;omega
 haveI:Lt a 8:=⟨ha8⟩;have d2:decide (a<8)=true:=decide_eq_true ha8;have i2:(a:Int)<8:=by omega
 have hra:=z0K h hwo a;have u2:IntKind.u64.wrap (c.queues.length:Int)=c.queues.length:=by rw [IntKind.wrap_u64];omega
 have hx:K.shared c who i value=K.recv c who i:=by
  unfold Kn.shared;rw [if_neg (by omega),if_neg (by omega),if_neg (by omega),if_neg (by omega),if_neg (by omega),if_neg (by omega),if_pos (by omega),if_neg h1,if_neg (by omega)]
 rw [hx];have hkl:k<c.queues.length:=by rw [hk] at h1;omega
 have d0:decide (c.queues.length≤k)=false:=by simp;omega
 have hS:=hid (fun (w:World) (G:HP) (hs:Sat w0 w (knP b x c K*G))=>show Calls Tryz.prog 117 _ w (zp w0 (.tuple #[]) (knP b x c (K.recv c who i)*G)) from if e:(K.ml k).recvE=0 then zfm b x c K who cb co hcx i hi h k hk hkl e w0 w G hs (by omega) else zfl b x c K who cb co hcx i hi h hm k hk hkl e w0 w G hs (by omega));clear hRf hi h cf hl hvl hx hra h1 hm;obtain ⟨op,a',b',c',d,k'⟩:=i;have hk:k'=k:=hk;have ha:a'=a:=ha;have ho:op=28:=ho;subst hk ha ho
 go_enter Tryz.func96,Tryz.ntmps96
 go_wp2_with fail;go_quiet (fail);go_wp2_with fail;refine (hS.out _ _ own).mono ?_;rintro en w1 ⟨rfl,hs1⟩;go_wp2_with fail
 go_end0
 exact ⟨rfl,z3⟩
theorem zaq (b:Nat) (x:Fx) (c:Cf) (K:Kn) (who cb co:Nat) (hcx:z4b b x c cb co who) (i:Ins) (hi:zI i) (h:Inv c K) (ho:i.op=29) (value:Int) (hvl:zG value) (w0 w:World) (F:HP) (hs:Sat w0 w (knP b x c K*F)) (hl:K.told.length≤99900) :
  Calls Tryz.prog 96 #[.pointer (some ⟨b,0,none⟩),.int .i64 who,.pointer (some ⟨cb,co,none⟩),z22 i,.int .u32 value] w (zp w0 (.tuple #[]) (knP b x c (K.shared c who i value)*F)):=by
 have cf:=h.cf;have hns:=cf.ns;have hnq:=cf.nq;have hwo:=zP hcx;have hw80:=z25 h hwo;have hv0:=hvl.1;have hv1:=hvl.2;have hRf:=hid (fun (e:Int) (he:0≤e∧e≤16) (w:World) (G:HP) (hs:Sat w0 w (knP b x c K*G))=>zV b x c K who cb co hcx i hi e he w0 w G hs cf hw80 (by omega));obtain ⟨k,hk⟩:=Int.eq_ofNat_of_zero_le (show 0≤i.k from hi.k.1);have hk32:(k:Int)<4294967296:=by rw [← hk];exact hi.k.2
 have u1:IntKind.u64.wrap (k:Int)=k:=by rw [IntKind.wrap_u64];omega
 have u5:IntKind.i64.wrap (k:Int)=k:=by rw [IntKind.wrap_i64];omega
 obtain ⟨a,ha⟩:=Int.eq_ofNat_of_zero_le (show 0≤i.a from hi.a.1);have ha8:a<8:=by have:=hi.a.2;omega
 haveI:Lt a 8:=⟨ha8⟩;have d2:decide (a<8)=true:=decide_eq_true ha8;have i2:(a:Int)<8:=by omega
 have hra:=z0K h hwo a;have hx:K.shared c who i value=K.timer c who i:=by
  unfold Kn.shared;rw [if_neg (by omega),if_neg (by omega),if_neg (by omega),if_neg (by omega),if_neg (by omega),if_neg (by omega),if_neg (by omega),if_pos (by omega)]
 rw [hx];have hS:=hid (fun (w:World) (G:HP) (hs:Sat w0 w (knP b x c K*G))=>zbR b x c K who cb co hcx i hi h ho w0 w G hs (by omega));clear hRf hi h cf hl hvl hx hra;obtain ⟨op,a',b',c',d,k'⟩:=i;have hk:k'=k:=hk;have ha:a'=a:=ha;have ho:op=29:=ho;subst hk ha ho
 go_enter Tryz.func96,Tryz.ntmps96
 go_wp2_with fail;refine (hS.out _ _ own).mono ?_;rintro en w1 ⟨rfl,hs1⟩;go_wp2_with fail
 go_end0
 exact ⟨rfl,z3⟩
theorem zas (b:Nat) (x:Fx) (c:Cf) (K:Kn) (who cb co:Nat) (hcx:z4b b x c cb co who) (i:Ins) (hi:zI i) (h:Inv c K) (ho:i.op=30) (value:Int) (hvl:zG value) (w0 w:World) (F:HP) (hs:Sat w0 w (knP b x c K*F)) (hl:K.told.length≤99900) :
  Calls Tryz.prog 96 #[.pointer (some ⟨b,0,none⟩),.int .i64 who,.pointer (some ⟨cb,co,none⟩),z22 i,.int .u32 value] w (zp w0 (.tuple #[]) (knP b x c (K.shared c who i value)*F)):=by
 have cf:=h.cf;have hns:=cf.ns;have hnq:=cf.nq;have hwo:=zP hcx;have hw80:=z25 h hwo;have hv0:=hvl.1;have hv1:=hvl.2;have hRf:=hid (fun (e:Int) (he:0≤e∧e≤16) (w:World) (G:HP) (hs:Sat w0 w (knP b x c K*G))=>zV b x c K who cb co hcx i hi e he w0 w G hs cf hw80 (by omega));obtain ⟨k,hk⟩:=Int.eq_ofNat_of_zero_le (show 0≤i.k from hi.k.1);have hk32:(k:Int)<4294967296:=by rw [← hk];exact hi.k.2
 have u1:IntKind.u64.wrap (k:Int)=k:=by rw [IntKind.wrap_u64];omega
 have u5:IntKind.i64.wrap (k:Int)=k:=by rw [IntKind.wrap_i64];omega
 obtain ⟨a,ha⟩:=Int.eq_ofNat_of_zero_le (show 0≤i.a from hi.a.1);have ha8:a<8:=by have:=hi.a.2;omega
 haveI:Lt a 8:=⟨ha8⟩;have d2:decide (a<8)=true:=decide_eq_true ha8;have i2:(a:Int)<8:=by omega
 have hra:=z0K h hwo a;have hx:K.shared c who i value=K.timer c who i:=by
  unfold Kn.shared;rw [if_neg (by omega),if_neg (by omega),if_neg (by omega),if_neg (by omega),if_neg (by omega),if_neg (by omega),if_neg (by omega),if_pos (by omega)]
 rw [hx];have hS:=hid (fun (w:World) (G:HP) (hs:Sat w0 w (knP b x c K*G))=>zbS b x c K who cb co hcx i hi h ho w0 w G hs (by omega));clear hRf hi h cf hl hvl hx hra;obtain ⟨op,a',b',c',d,k'⟩:=i;have hk:k'=k:=hk;have ha:a'=a:=ha;have ho:op=30:=ho;subst hk ha ho
 go_enter Tryz.func96,Tryz.ntmps96
 go_wp2_with fail;refine (hS.out _ _ own).mono ?_;rintro en w1 ⟨rfl,hs1⟩;go_wp2_with fail
 go_end0
 exact ⟨rfl,z3⟩
theorem zd3 (b:Nat) (x:Fx) (c:Cf) (K:Kn) (who cb co:Nat) (hcx:z4b b x c cb co who) (i:Ins) (hi:zI i) (h:Inv c K) (ho:21≤i.op∧i.op≤30) (hm:64≤who→i.op=27∨i.op=28→i.d=1) (value:Int) (hvl:zG value) (w0 w:World) (F:HP) (hs:Sat w0 w (knP b x c K*F)) (hl:K.told.length≤99900) :
  Calls Tryz.prog 96 #[.pointer (some ⟨b,0,none⟩),.int .i64 who,.pointer (some ⟨cb,co,none⟩),z22 i,.int .u32 value] w (zp w0 (.tuple #[]) (knP b x c (K.shared c who i value)*F)):=by
 by_cases e:i.op=21
 ·exact zbL b x c K who cb co hcx i hi h e value hvl w0 w F hs hl
 by_cases e:i.op=22
 ·exact zat b x c K who cb co hcx i hi h e value hvl w0 w F hs hl
 by_cases e:i.op=23
 ·exact z93 b x c K who cb co hcx i hi h e value hvl w0 w F hs hl
 by_cases e:i.op=24
 ·exact z96 b x c K who cb co hcx i hi h e value hvl w0 w F hs hl
 by_cases e:i.op=25
 ·exact zar b x c K who cb co hcx i hi h e value hvl w0 w F hs hl
 by_cases e:i.op=26
 ·by_cases h1:(c.sems.length:Int)≤i.k
  ·exact z5q b x c K who cb co hcx i hi h e h1 value hvl w0 w F hs hl
  ·by_cases h2:K.postE i.k.toNat=0
   ·exact z94 b x c K who cb co hcx i hi h e h1 h2 value hvl w0 w F hs hl
   ·exact z7e b x c K who cb co hcx i hi h e h1 h2 value hvl w0 w F hs hl
 by_cases e:i.op=27
 ·by_cases h1:(c.queues.length:Int)≤i.k
  ·exact z5s b x c K who cb co hcx i hi h e h1 value hvl w0 w F hs hl
  ·exact z97 b x c K who cb co hcx i hi h e (fun a=>hm a (.inl e)) h1 value hvl w0 w F hs hl
 by_cases e:i.op=28
 ·by_cases h1:(c.queues.length:Int)≤i.k
  ·exact z5r b x c K who cb co hcx i hi h e h1 value hvl w0 w F hs hl
  ·exact z95 b x c K who cb co hcx i hi h e (fun a=>hm a (.inr e)) h1 value hvl w0 w F hs hl
 by_cases e:i.op=29
 ·exact zaq b x c K who cb co hcx i hi h e value hvl w0 w F hs hl
 ·exact zas b x c K who cb co hcx i hi h (by omega) value hvl w0 w F hs hl
end Go.Proofs.YtgiiidminlhbpaaGreatDoor
