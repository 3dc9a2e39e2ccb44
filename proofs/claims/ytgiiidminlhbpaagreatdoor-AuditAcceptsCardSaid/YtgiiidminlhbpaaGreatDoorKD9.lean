/-
  Parts of the proof: KernY KernZ WorldP ScOpen KernDv KernF KernL KernM KernN KernU KernSl KernNx KernAw.
-/
import Derived.Test.YtgiiidminlhbpaaGreatDoorKD8
set_option linter.unusedVariables false
set_option linter.unusedSimpArgs false
set_option maxHeartbeats 32000000
set_option maxRecDepth 100000
namespace Go.Proofs.YtgiiidminlhbpaaGreatDoor
open Go.RowKit Go.Sx Go.Dl Go.Lk Go.Rq Go.Au
section
variable {c:Cf} {K:Kn}
abbrev Kn.ins (K:Kn) (c:Cf) (t:Nat):Ins:=z0j (tcg c t).code (K.T t).at_ 37
abbrev Kn.paid (K:Kn) (c:Cf) (t:Nat):Kn:=K.cost (zT (K.ins c t))
abbrev Kn.fwd (K:Kn) (t:Nat):Kn:=K.setT t { K.T t with at_:=(K.T t).at_+1 }
theorem z4G (h:Inv c K) {t:Nat} (ht:t<c.ts.length) (hs:(K.T t).st=1) (hop:(K.ins c t).op≤20) :
  Inv c ((K.paid c t).putCx t (doI (K.ins c t) ((K.paid c t).cx t)).2)∧(((K.paid c t).putCx t (doI (K.ins c t) ((K.paid c t).cx t)).2).T t).st=1:=by
 have hT:=h.T t ht;have ha:=hT.at_;have hi:=z0k h.cf ht ha.1;have hcf:=h.cf.t t ht;have h1:=zU h (zT (z0j (tcg c t).code (K.T t).at_ 37));have hl:=z3H (l:=(tcg c t).code) (a:=(K.T t).at_) (last:=37) ha.1;have t64:t<64:=by have:=h.cf.nt;omega
 unfold Kn.paid Kn.ins at *
 rcases hl with ⟨g1,g2,g3⟩ | ⟨_,g2⟩
 ·have hck:=(h.cf.tc t ht _ g3).1;have hcx:(K.cost (zT (z0j (tcg c t).code (K.T t).at_ 37))).cx t=⟨(K.T t).at_,(K.T t).rg,K.tm t⟩:=by unfold Kn.cx;rw [if_pos t64];rfl
  rw [hcx];have hok:=z6N hi (x:=⟨(K.T t).at_,(K.T t).rg,K.tm t⟩) ⟨hT.rg,(h.tm t ht).2⟩;have hat:=zcI hi (x:=⟨(K.T t).at_,(K.T t).rg,K.tm t⟩) (n:=(tcg c t).code.length) ha.1 g1 (fun e=>by rw [g2] at e ⊢;exact z40 hck e);generalize doI (z0j (tcg c t).code (K.T t).at_ 37) ⟨(K.T t).at_,(K.T t).rg,K.tm t⟩=r at hok hat;have hx:z8a c t { K.T t with at_:=r.2.at_,rg:=r.2.rg }:=⟨hT.lev,hT.late,hT.job,hok.1.rg,⟨hat.1,by have:=hat.2;have:=hcf.2.2.2.2.2;show r.2.at_≤300;omega⟩,hT.st,fun _=>hat.2,by show 2≤(K.T t).st→_;omega,hT.on4,hT.on5,hT.on6,hT.on⟩;have h2:=z0t h1 ht hx rfl rfl;unfold Kn.putCx;rw [if_pos t64];refine ⟨{ h2 with tm:=fun u hu=>?_ },?_⟩
  ·show (upd K.tm t r.2.mem u).length=_∧∀ w∈upd K.tm t r.2.mem u,zG w;unfold upd;split
   ·rename_i e;subst e;exact ⟨by rw [hok.2];exact (h.tm u ht).1,hok.1.mem⟩
   ·exact h.tm u hu
  ·show (upd _ _ _ _:Ts).st=1;rw [zK];exact hs
 ·rw [g2] at hop;simp at hop
theorem zbT (h:Inv c K) {t:Nat} (r:Rdy c K t) {status:Int} (hs:status=7∨status=8):Inv c (K.left t status):=by
 have hT:=h.T t r.lt;have hx:z8a c t { K.T t with st:=status }:=⟨hT.lev,hT.late,hT.job,hT.rg,hT.at_,by show 0≤status∧status≤8;omega,by show status=0∨status=1→_;omega,by show 2≤status→status≤6→_;omega,by show status=4→_;omega,by show status=5→_;omega,by show status=6→_;omega,hT.on⟩;exact z2f h r hx
theorem z6R (h:Inv c K) {t:Nat} (ht:t<c.ts.length) (hs:(K.T t).st=1):Inv c ((((K.paid c t).fwd t).tell c 22 t 0 0).left t 7):=by
 have hT:=h.T t ht;have ha:=hT.at_;have hrun:=hT.run (.inr hs);have hcf:=h.cf.t t ht;have h1:=zU h (zT (z0j (tcg c t).code (K.T t).at_ 37));have hr:=z2B h1 ht hs;have hT1:=h1.T t ht;have hx:z8a c t { (K.paid c t).T t with at_:=((K.paid c t).T t).at_+1,st:=7 }:=⟨hT1.lev,hT1.late,hT1.job,hT1.rg,by show 0≤(K.T t).at_+1∧(K.T t).at_+1≤300;omega,by simp,by simp,by simp,by simp,by simp,by simp,hT1.on⟩;have g:=zl (z2f h1 hr hx) 22 t 0 0;have e:(((K.paid c t).fwd t).tell c 22 t 0 0).left t 7=Kn.tell { (K.paid c t).setT t { (K.paid c t).T t with at_:=((K.paid c t).T t).at_+1,st:=7 } with R:=z5F (K.paid c t).R t } c 22 t 0 0:=by
  unfold Kn.left Kn.tell
  split
  ·simp [Kn.fwd,Kn.setT]
  ·simp [Kn.fwd,Kn.setT]
 rw [e];exact g
theorem zbx (h:Inv c K) {t:Nat} (ht:t<c.ts.length) (hs:(K.T t).st=1) (hne:(K.ins c t).op≠37) :
  Inv c ((K.paid c t).fwd t)∧z20 c ((K.paid c t).fwd t) t:=by
 have hT:=h.T t ht;have ha:=hT.at_;have hcf:=h.cf.t t ht;have h1:=zU h (zT (z0j (tcg c t).code (K.T t).at_ 37));have hl:=z3H (l:=(tcg c t).code) (a:=(K.T t).at_) (last:=37) ha.1
 rcases hl with ⟨g1,g2,g3⟩ | ⟨_,g2⟩
 ·have hx:z8a c t { K.T t with at_:=(K.T t).at_+1 }:=⟨hT.lev,hT.late,hT.job,hT.rg,by have:=hcf.2.2.2.2.2;show 0≤(K.T t).at_+1∧(K.T t).at_+1≤300;omega,hT.st,fun _=>by show (K.T t).at_+1≤_;omega,by show 2≤(K.T t).st→_;omega,hT.on4,hT.on5,hT.on6,hT.on⟩;refine ⟨z0t h1 ht hx rfl rfl,?_,?_⟩
  ·show (upd _ _ _ _:Ts).st=1;rw [zK];exact hs
  ·show 1≤(upd _ _ _ _:Ts).at_∧(upd _ _ _ _:Ts).at_≤_;rw [zK];show 1≤(K.T t).at_+1∧(K.T t).at_+1≤_;omega
 ·unfold Kn.ins at hne;rw [g2] at hne;exact absurd rfl hne
theorem zeZ (h:Inv c K) {t:Nat} (ht:t<c.ts.length) (hs:(K.T t).st=1) {value:Int}:zH c 1 161 1000 K (K.go c t value):=by
 have hi:zI (K.ins c t):=z0k h.cf ht (h.T t ht).at_.1;have hnt:=h.cf.nt;have hc:=z0s hi;have g0:zH c 1 0 1000 K (K.paid c t):=z2e (by omega) (by omega);have e:K.go c t value=if (K.ins c t).op≤20 then
   (if (doI (K.ins c t) ((K.paid c t).cx t)).1=0 then (K.paid c t).putCx t (doI (K.ins c t) ((K.paid c t).cx t)).2 else (((K.paid c t).putCx t (doI (K.ins c t) ((K.paid c t).cx t)).2).tell c 21 t (doI (K.ins c t) ((K.paid c t).cx t)).1 0).gone c t 8)
  else if (K.ins c t).op=37 then (((K.paid c t).fwd t).tell c 22 t 0 0).gone c t 7 else ((K.paid c t).fwd t).serveTask c t (K.ins c t) value:=rfl
 rw [e]
 split
 ·rename_i hop
  obtain ⟨h2,h3⟩:=z4G h ht hs hop;have g1:=g0.post (z0Z (who:=t) (doI (K.ins c t) ((K.paid c t).cx t)).2).1 (z0Z (who:=t) (doI (K.ins c t) ((K.paid c t).cx t)).2).2.1 (z0Z (who:=t) (doI (K.ins c t) ((K.paid c t).cx t)).2).2.2
  split
  ·exact g1.le (by omega) (by omega) (by omega)
  ·have h4:=zl h2 21 t (doI (K.ins c t) ((K.paid c t).cx t)).1 0;have hr:=z2B h4 ht (by rw [z01];exact h3);have h5:=zbT h4 hr (status:=8) (.inr rfl);have hsm:=z3x (K.ins c t) ((K.paid c t).cx t);refine ((g1.trans (zu h.cf (kd:=21) (a:=t) (b:=(doI (K.ins c t) ((K.paid c t).cx t)).1) (v:=0) (by decide) (z1s ⟨?_,?_,rfl⟩ (by decide)))).trans (za9 (by omega) h5)).le (by omega) (by omega) (by omega)
   ·simp [shp,win];omega
   ·simp [shp,win];omega
 ·split
  ·have h5:=z6R h ht hs;have g1:zH c 1 0 1000 K ((K.paid c t).fwd t):=g0.post rfl rfl rfl;refine ((g1.trans (zu h.cf (kd:=22) (a:=t) (b:=0) (v:=0) (by decide) (z1s ⟨?_,rfl,rfl⟩ (by decide)))).trans (za9 (by omega) h5)).le (by omega) (by omega) (by omega);simp [shp,win];omega
  ·rename_i hne
   obtain ⟨h2,h3⟩:=zbx h ht hs hne;have g1:zH c 1 0 1000 K ((K.paid c t).fwd t):=g0.post rfl rfl rfl;exact (g1.trans (z7U h2 ht h3 hi)).le (by omega) (by omega) (by omega)
theorem z8S (h:Inv c K) {value:Int}:zH c 1 162 1010 K (K.dispatch c value):=by
 have hnt:=h.cf.nt;have hrun:=h.run;unfold Kn.dispatch
 cases hf:z0h K.R with
 | none =>
  dsimp only
  split
  ·exact (z2e (by omega) (by omega):zH c 1 0 1 K (K.cost 1)).le (by omega) (by omega) (by omega)
  ·rename_i hne
   have g1:zH c 0 1 0 K (K.tell c 5 255 K.run 0):=by
    refine zu h.cf (by decide) ?_;unfold okN shp win;simp
    rcases hrun with e | e
    ·exact absurd e.symm hne
    ·omega
   have g2:zH c 10 0 10 (K.tell c 5 255 K.run 0) ((K.tell c 5 255 K.run 0).cost 10):=z2e (by omega) (by omega);exact ((((g1.trans g2).post (K2:={ (K.tell c 5 255 K.run 0).cost 10 with run:=255 }) rfl rfl rfl)).trans (z2e (lo:=1) (m:=1) (x:=1) (by omega) (by omega))).le (by omega) (by omega) (by omega)
 | some t =>
  obtain ⟨l,hl⟩:=z0q hf;obtain ⟨ht,hs⟩:=h.rdy l t hl;dsimp only
  split
  ·exact (zeZ h ht hs).le (by omega) (by omega) (by omega)
  ·rename_i hne
   have g1:zH c 0 1 0 K (K.tell c 5 t K.run 0):=by
    refine zu h.cf (by decide) ?_;unfold okN shp win;simp
    rcases hrun with e | e
    ·omega
    ·omega
   have g2:zH c 10 0 10 (K.tell c 5 t K.run 0) ((K.tell c 5 t K.run 0).cost 10):=z2e (by omega) (by omega);have hI:Inv c { (K.tell c 5 t K.run 0).cost 10 with run:=(t:Int) }:={ zU (zl h 5 t K.run 0) 10 with run:=.inr ⟨by show (0:Int)≤t;omega,by show (t:Int)<_;omega⟩ };have g3:=zeZ hI ht (by show ((Kn.tell _ _ _ _ _ _).T t).st=1;rw [z01];exact hs) (value:=value);exact (((g1.trans g2).post (K2:={ (K.tell c 5 t K.run 0).cost 10 with run:=(t:Int) }) rfl rfl rfl).trans g3).le (by omega) (by omega) (by omega)
abbrev Kn.insL (K:Kn) (c:Cf) (n:Nat):Ins:=z0j (lcg c n).code K.iat 38
abbrev Kn.paidL (K:Kn) (c:Cf) (n:Nat):Kn:=K.cost (zT (K.insL c n))
theorem z7I (h:Inv c K) {n:Nat} (ha:K.ln.active=n) (hn:n<c.ls.length) (hop:(K.insL c n).op≤20) :
  Inv c ((K.paidL c n).putCx (64+n) (doI (K.insL c n) ((K.paidL c n).cx (64+n))).2):=by
 have hi:=z1k h.cf hn h.iat.1;have hl:=z3H (l:=(lcg c n).code) (a:=K.iat) (last:=38) h.iat.1;have hcf:=h.cf.l _ hn;have h1:=zU h (zT (z0j (lcg c n).code K.iat 38));have n64:¬ 64+n<64:=by omega
 have e64:64+n-64=n:=by omega
 unfold Kn.paidL Kn.insL at *
 rcases hl with ⟨g1,g2,g3⟩ | ⟨_,g2⟩
 ·have hck:=(h.cf.lc n hn _ g3).1;have hcx:(K.cost (zT (z0j (lcg c n).code K.iat 38))).cx (64+n)=⟨K.iat,K.irg,K.mems n⟩:=by unfold Kn.cx;rw [if_neg n64,e64];rfl
  rw [hcx];have hok:=z6N hi (x:=⟨K.iat,K.irg,K.mems n⟩) ⟨h.irg,(h.mems n hn).2⟩;have hat:=zcI hi (x:=⟨K.iat,K.irg,K.mems n⟩) (n:=(lcg c n).code.length) h.iat.1 g1 (fun e=>by rw [g2] at e ⊢;exact z40 hck e);generalize doI (z0j (lcg c n).code K.iat 38) ⟨K.iat,K.irg,K.mems n⟩=r at hok hat;unfold Kn.putCx;rw [if_neg n64];refine { h1 with mems:=fun u hu=>?_,irg:=hok.1.rg,iat:=⟨hat.1,?_⟩,act:=.inr ⟨by show 0≤K.ln.active;omega,by show K.ln.active<_;omega,?_⟩ }
  ·show (upd K.mems (64+n-64) r.2.mem u).length=_∧∀ w∈upd K.mems (64+n-64) r.2.mem u,zG w;rw [e64];unfold upd;split
   ·rename_i e;subst e;exact ⟨by rw [hok.2];exact (h.mems u hu).1,hok.1.mem⟩
   ·exact h.mems u hu
  ·have:=hat.2;show r.2.at_≤300;omega
  ·show r.2.at_≤((lcg c K.ln.active.toNat).code.length:Int);rw [ha,Int.toNat_natCast];exact hat.2
 ·rw [g2] at hop;simp at hop
theorem z8z (h:Inv c K) {n:Nat} (ha:K.ln.active=n) (hn:n<c.ls.length) (hne:(K.insL c n).op≠38) :
  Inv c { K.paidL c n with iat:=K.iat+1 }∧((K.insL c n).op=27∨(K.insL c n).op=28→(K.insL c n).d=1):=by
 have hl:=z3H (l:=(lcg c n).code) (a:=K.iat) (last:=38) h.iat.1;have hcf:=h.cf.l _ hn;have h1:=zU h (zT (z0j (lcg c n).code K.iat 38))
 rcases hl with ⟨g1,g2,g3⟩ | ⟨_,g2⟩
 ·have hck:=(h.cf.lc n hn _ g3).1;refine ⟨{ h1 with iat:=⟨by have:=h.iat.1;show 0≤K.iat+1;omega,by show K.iat+1≤300;omega⟩,act:=.inr ⟨by show 0≤K.ln.active;omega,by show K.ln.active<_;omega,by show K.iat+1≤((lcg c K.ln.active.toNat).code.length:Int);rw [ha,Int.toNat_natCast];omega⟩ },fun e=>?_⟩;have hm:=z4D hck;unfold Kn.insL at *;rw [← g2] at hm;unfold may at hm;rw [if_neg hne] at hm
  simpa [e] using hm
 ·unfold Kn.insL at hne;rw [g2] at hne;exact absurd rfl hne
theorem zdK (h:Inv c K) {n:Nat} (ha:K.ln.active=n) (hn:n<c.ls.length) {value:Int}:zH c 1 162 1010 K (K.serve c n value) := by
  have hi:zI (K.insL c n) := z1k h.cf hn h.iat.1;have hnl := h.cf.nl;have hc := z0s hi;have g0:zH c 1 0 1000 K (K.paidL c n) := z2e (by omega) (by omega);have e:K.serve c n value=if (K.insL c n).op≤20 then
      (if (doI (K.insL c n) ((K.paidL c n).cx (64+n))).1=0 then (K.paidL c n).putCx (64+n) (doI (K.insL c n) ((K.paidL c n).cx (64+n))).2
       else { ({ ((K.paidL c n).putCx (64+n) (doI (K.insL c n) ((K.paidL c n).cx (64+n))).2).tell c 21 (64+n) (doI (K.insL c n) ((K.paidL c n).cx (64+n))).1 0 with ln := (((K.paidL c n).putCx (64+n) (doI (K.insL c n) ((K.paidL c n).cx (64+n))).2).tell c 21 (64+n) (doI (K.insL c n) ((K.paidL c n).cx (64+n))).1 0).ln.bar n }:Kn).tell c 4 n 0 0 with ln := (({ ((K.paidL c n).putCx (64+n) (doI (K.insL c n) ((K.paidL c n).cx (64+n))).2).tell c 21 (64+n) (doI (K.insL c n) ((K.paidL c n).cx (64+n))).1 0 with ln := (((K.paidL c n).putCx (64+n) (doI (K.insL c n) ((K.paidL c n).cx (64+n))).2).tell c 21 (64+n) (doI (K.insL c n) ((K.paidL c n).cx (64+n))).1 0).ln.bar n }:Kn).tell c 4 n 0 0).ln.leave })
    else if (K.insL c n).op=38 then { (K.paidL c n).tell c 4 n 0 0 with ln := ((K.paidL c n).tell c 4 n 0 0).ln.leave } else Kn.shared { K.paidL c n with iat := K.iat+1 } c (64+n) (K.insL c n) value := rfl
  rw [e];have g4:∀ K1:Kn, zH c 0 1 0 K1 (K1.tell c 4 n 0 0) := fun K1 => zu h.cf (by decide) (z1s ⟨by simp [shp, win]; omega, rfl, rfl⟩ (by decide))
  split
  · rename_i hop
    have g1 := g0.post (z0Z (who := 64+n) (doI (K.insL c n) ((K.paidL c n).cx (64+n))).2).1 (z0Z (who := 64+n) (doI (K.insL c n) ((K.paidL c n).cx (64+n))).2).2.1 (z0Z (who := 64+n) (doI (K.insL c n) ((K.paidL c n).cx (64+n))).2).2.2;generalize (K.paidL c n).putCx (64+n) (doI (K.insL c n) ((K.paidL c n).cx (64+n))).2=K2 at g1 ⊢
    split
    · exact g1.le (by omega) (by omega) (by omega)
    · have hsm := z3x (K.insL c n) ((K.paidL c n).cx (64+n))
      generalize (doI (K.insL c n) ((K.paidL c n).cx (64+n))).1=er at hsm ⊢;have g2 := g1.trans (lo' := 0) (n' := 1) (m' := 0) (zu h.cf (kd := 21) (a := 64+n) (b := er) (v := 0) (by decide) (z1s ⟨by simp [shp, win]; omega, by simp [shp, win]; omega, rfl⟩ (by decide)));have g3 := (g2.post (K2 := { K2.tell c 21 (64+n) er 0 with ln := (K2.tell c 21 (64+n) er 0).ln.bar n }) rfl rfl rfl).trans (g4 _);exact zH.ql g3 rfl rfl rfl (by omega) (by omega) (by omega)
  · split
    · exact zH.ql (g0.trans (g4 _)) rfl rfl rfl (by omega) (by omega) (by omega)
    · rename_i hne
      obtain ⟨h2, h3⟩ := z8z h ha hn hne;have g1:zH c 1 0 1000 K { K.paidL c n with iat := K.iat+1 } := g0.post rfl rfl rfl;exact (g1.trans (z6U h2 (.inr ⟨by omega, by omega⟩) (fun a => by omega) hi (fun _ => h3))).le (by omega) (by omega) (by omega)
theorem zcS (h:Inv c K) (hz:K.stopped=false) {value:Int}:zH c 1 162 1010 K (K.act c value):=by
 unfold Kn.act;rw [if_neg (by rw [hz];decide)]
 split
 ·rename_i ha
  obtain ⟨a1,a2,_⟩:=h.act.resolve_left ha;exact zdK h (by omega) (by omega)
 split
 ·rename_i hr
  have hr':K.ln.active=255∧K.ln.pending &&& K.ln.mask≠0:=by unfold Ln.ready at hr;simpa using hr
  have hsm:K.ln.pending &&& K.ln.mask<2^c.ls.length:=z3w h.msk;have hnl:=h.cf.nl;have hlow:low (K.ln.pending &&& K.ln.mask)<c.ls.length:=zfL hr'.2 hsm (by omega);have he:K.ln.enter.active=low (K.ln.pending &&& K.ln.mask):=by unfold Ln.enter;rw [if_pos hr]
  have g1:zH c 0 1 0 K ({ K with ln:=K.ln.enter }.tell c 3 K.ln.enter.active 0 0):=by
   refine zH.pre (zu h.cf (by decide) (z1s ⟨?_,rfl,rfl⟩ (by decide))) rfl rfl rfl;rw [he];simp [shp,win];omega
  have g2:zH c 6 0 6 ({ K with ln:=K.ln.enter }.tell c 3 K.ln.enter.active 0 0) (({ K with ln:=K.ln.enter }.tell c 3 K.ln.enter.active 0 0).cost 6):=z2e (by omega) (by omega);exact zH.ql (g1.trans g2) rfl rfl rfl (by omega) (by omega) (by omega)
 ·exact z8S h
theorem z1U (t:Nat) (why a:Int):(K.wake c t why a).stopped=K.stopped:=by unfold Kn.wake;simp [Kn.setT]
theorem z3Q (who:Int) (s:Nat):(K.post c who s).stopped=K.stopped:=by
 unfold Kn.post;dsimp only
 split
 ·rfl
 ·split
  ·rw [z1U,zc]
  ·rw [zc]
theorem z7N (t:Nat):(K.timeout c t).stopped=K.stopped:=by
 unfold Kn.timeout;dsimp only
 repeat' split
 ·rfl
 all_goals rw [z1U]
theorem z7C (t:Nat):(K.release c t).stopped=K.stopped:=by
 unfold Kn.release;dsimp only
 by_cases h1:(K.T t).st=0<;>by_cases h2:0<(tcg c t).per<;>simp only [h1,h2,if_true,if_false,zc,Kn.setT]
theorem zaL (id:Int):(K.over c id).stopped=K.stopped:=by
 unfold Kn.over;dsimp only
 split
 ·exact z7C _
 split
 ·exact z7N _
 split
 ·rw [zc,z3Q,zc]
 ·rw [z3Q,zc]
theorem z4O:∀ (l:List Int) (K:Kn),(l.foldl (fun K id=>K.over c id) K).stopped=K.stopped
 | [],_=>rfl
 | id::l,K=>(z4O l _).trans (zaL id)
noncomputable def Kn.evs (K:Kn) (c:Cf) (bits:Nat) (value:Int):List Ev:=(K.tick c).told++(((K.tick c).take.raise c bits).told++(((((K.tick c).take.raise c bits).take).act c value).told))
theorem z60 (hf:¬ K.full) (hz:K.stopped=false) (h:Inv c K):(K.tick c).stopped=false:=by
 rw [z9J hf hz,z4O];exact hz
theorem z4S (bits:Nat):(K.raise c bits).stopped=K.stopped := by
  unfold Kn.raise
  split
  · rfl
  · have:∀ n (K:Kn) a b, (K.raiseN c a b n).stopped=K.stopped := fun n => by
      induction n with
      | zero => intros; rfl
      | succ n ih => intro K a b; unfold Kn.raiseN; dsimp only; split
                     · rw [zc, ih]
                     · exact ih K a b
    rw [this]
theorem zbc (h:Inv c K) (hf:¬ K.full) (hz:K.stopped=false) (ht:K.told=[]) (bits:Nat) {value:Int} (hv:zG value) :
  (K.step c bits value).count=K.count+1∧K.cycle+1≤(K.step c bits value).cycle∧(K.step c bits value).cycle<K.cycle+65536∧(K.step c bits value).told=[] ∧
  (∀ e∈K.evs c bits value,okE e=true∧z1l c.filter e.k.toNat=true∧e.co=K.count+1)∧zbn K.cycle (K.evs c bits value) (K.step c bits value).cycle:=by
 have hcy:=h.cyc;have hlt:K.cycle≤18446744073709486079:=by unfold Kn.full at hf;omega
 obtain ⟨a1,l1,a2,_,a3,a4⟩:=zab h hf hz;obtain ⟨c1,c2,c3⟩:=a4 hcy.1 (by show K.cycle+((768:Nat):Int)*64+((0:Nat):Int)<18446744073709551616;omega);have i1:=z3b (z8Z h);have z1:(K.tick c).take.stopped=false:=z60 hf hz h;obtain ⟨b1,l2,b2,_,b3,b4⟩:=z8f i1 bits;have e0:(K.tick c).take.cycle=(K.tick c).cycle:=rfl;have c1':K.cycle+0≤(K.tick c).cycle:=c1;have c2':(K.tick c).cycle≤K.cycle+(768:Nat)*64+(0:Nat):=c2;obtain ⟨d1,d2,d3⟩:=b4 (by rw [e0];omega) (by rw [e0];omega);rw [e0] at d1 d2 d3;have i2:=z3b (z71 i1 bits);have z2:((K.tick c).take.raise c bits).take.stopped=false:=(z4S bits).trans z1;obtain ⟨f1,l3,f2,_,f3,f4⟩:=zcS i2 z2 (value:=value);have e1:((K.tick c).take.raise c bits).take.cycle=((K.tick c).take.raise c bits).cycle:=rfl;obtain ⟨g1,g2,g3⟩:=f4 (by rw [e1];omega) (by rw [e1];omega);rw [e1] at g1 g2 g3;have e2:(K.step c bits value).cycle=((((K.tick c).take.raise c bits).take).act c value).cycle:=rfl;have t1:(K.tick c).told=l1:=by
  have:(K.tick c).told=K.told++l1:=a2;rw [this,ht];rfl
 have t2:((K.tick c).take.raise c bits).told=l2:=by
  have:((K.tick c).take.raise c bits).told=(K.tick c).take.told++l2:=b2;rw [this];rfl
 have t3:((((K.tick c).take.raise c bits).take).act c value).told=l3:=by
  have:((((K.tick c).take.raise c bits).take).act c value).told=((K.tick c).take.raise c bits).take.told++l3:=f2;rw [this];rfl
 have k1:(K.tick c).count=K.count+1:=a1;have k2:((K.tick c).take.raise c bits).count=K.count+1:=b1.trans k1;have k3:((((K.tick c).take.raise c bits).take).act c value).count=K.count+1:=f1.trans k2;refine ⟨k3,by rw [e2];omega,by rw [e2];omega,rfl,fun e he=>?_,?_⟩
 ·unfold Kn.evs at he;rw [t1,t2,t3,List.mem_append,List.mem_append] at he
  rcases he with x | x | x
  ·have:=a3 e x;exact this
  ·have:=b3 e x;have e9:(K.tick c).take.count=K.count+1:=k1;rw [e9] at this;exact this
  ·have:=f3 e x;have e9:((K.tick c).take.raise c bits).take.count=K.count+1:=k2;rw [e9] at this;exact this
 ·unfold Kn.evs;rw [t1,t2,t3,e2];exact c3.app (d3.app g3)
end
section
variable {c:Cf} {K:Kn}
theorem zaR (h:K.stopped=true) {bits:Nat}:K.raise c bits=K:=by unfold Kn.raise;rw [if_pos h]
theorem zeB (h:K.stopped=true) {value:Int}:K.act c value=K:=by unfold Kn.act;rw [if_pos h]
theorem z3U (h:K.full∨K.stopped=true) (bits:Nat) (value:Int):K.step c bits value={ K with stopped:=true,told:=[] }:=by
 unfold Kn.step;rw [z2Y h];rw [zaR (show ({ K with stopped:=true }:Kn).take.stopped=true from rfl),zeB (show ({ K with stopped:=true }:Kn).take.take.stopped=true from rfl)];rfl
theorem zcJ (h:K.full∨K.stopped=true) (ht:K.told=[]) (bits:Nat) (value:Int):K.evs c bits value=[]:=by
 unfold Kn.evs;rw [z2Y h];rw [zaR (show ({ K with stopped:=true }:Kn).take.stopped=true from rfl),zeB (show ({ K with stopped:=true }:Kn).take.take.stopped=true from rfl)];show K.told++([]++[])=[];rw [ht];rfl
end
structure Ar where
 step:Int
 line:Int
abbrev ar0:Ar:=⟨0,0⟩
structure Sc where
 steps:Int
 ar:List Ar
 tape:List Int
def zqq (last:Int):List Ar→Bool
 | []=>false
 | a::l=>decide (a.step<last∨a.line<0∨16≤a.line) || zqq a.step l
def scE (s:Sc):Int :=
 if s.steps<0∨65536<s.steps then 1
 else if 65536<s.ar.length∨65536<s.tape.length then 4
 else if zqq 1 s.ar then 5 else 0
def zq7 (d:Int):Nat→List Ar→Nat×List Ar
 | b,[]=>(b,[])
 | b,a::l=>if a.step=d then zq7 d (b ||| 2^a.line.toNat) l else (b,a::l)
structure Wd where
 K:Kn
 ar:List Ar
 tape:List Int
 done:Nat
 steps:Int
def Wd.bits (w:Wd):Nat:=(zq7 (w.done+1) 0 w.ar).1
def Wd.rest (w:Wd):List Ar:=(zq7 (w.done+1) 0 w.ar).2
def Wd.val (w:Wd):Int:=if w.K.reads<w.tape.length then lg w.tape w.K.reads.toNat else 0
noncomputable def Wd.one (c:Cf) (w:Wd):Wd:=⟨w.K.step c w.bits w.val,w.rest,w.tape,w.done+1,w.steps⟩
noncomputable def Wd.run (c:Cf):Nat→Wd→Wd
 | 0,w=>w
 | n+1,w=>if (w.done:Int)<w.steps then Wd.run c n (w.one c) else w
noncomputable def Wd.evs (c:Cf):Nat→Wd→List Ev
 | 0,_=>[]
 | n+1,w=>if (w.done:Int)<w.steps then w.K.evs c w.bits w.val++Wd.evs c n (w.one c) else []
theorem zqJ (d:Int):∀ (l:List Ar) (b:Nat), ∃ p,l=p++(zq7 d b l).2
 | [],b=>⟨[],rfl⟩
 | a::l,b=>by
  unfold zq7
  split
  ·obtain ⟨p,e⟩:=zqJ d l (b ||| 2^a.line.toNat);exact ⟨a::p,by rw [List.cons_append,← e]⟩
  ·exact ⟨[],rfl⟩
def zrx (l:List Ar):Prop:=∀ a∈l,0≤a.line∧a.line<16
theorem zrf (d:Int):∀ (l:List Ar) (b:Nat),zrx l→b<65536→(zq7 d b l).1<65536
 | [],b,_,hb=>hb
 | a::l,b,ha,hb=>by
  unfold zq7
  split
  ·refine zrf d l _ (fun x hx=>ha x (List.mem_cons_of_mem _ hx)) ?_;have h:=ha a (List.mem_cons_self ..);have h2:2^a.line.toNat<2^16:=Nat.pow_lt_pow_right (by decide) (by omega);exact Nat.or_lt_two_pow (n:=16) hb h2
  ·exact hb
theorem zqn:∀ (l:List Ar) (last:Int),zqq last l=false→zrx l
 | [],_,_=>fun a h=>absurd h (by simp)
 | b::l,last,h=>by
  unfold zqq at h;simp only [Bool.or_eq_false_iff,decide_eq_false_iff_not] at h;intro a ha
  rcases List.mem_cons.1 ha with rfl | ha
  ·omega
  ·exact zqn l b.step h.2 a ha
structure zr8 (c:Cf) (w:Wd):Prop where
 inv:Inv c w.K
 told:w.K.told=[]
 ar:zrx w.ar
 tape:∀ v∈w.tape,zG v
 steps:0≤w.steps∧w.steps≤65536
 done:(w.done:Int)≤w.steps
theorem zqV {c:Cf} {w:Wd} (h:zr8 c w):zG w.val:=by
 unfold Wd.val
 split
 ·rename_i hl
  have hr:=h.inv.rds;have hlt:w.K.reads.toNat<w.tape.length:=by omega
  have e:lg w.tape w.K.reads.toNat=w.tape[w.K.reads.toNat]:=by unfold lg;simp [List.getD,hlt]
  rw [e];exact h.tape _ (List.getElem_mem hlt)
 ·unfold zG;decide
theorem zqu {c:Cf} {w:Wd} (h:zr8 c w) (hd:(w.done:Int)<w.steps):zr8 c (w.one c):=by
 refine ⟨z23 h.inv _ (zqV h),rfl,fun a ha=>h.ar a ?_,h.tape,h.steps,?_⟩
 ·obtain ⟨p,e⟩:=zqJ (w.done+1) w.ar 0;rw [e];exact List.mem_append_right _ ha
 ·show ((w.done+1:Nat):Int)≤w.steps;omega
theorem zrk {c:Cf}:∀ (n:Nat) {w:Wd},zr8 c w→zr8 c (Wd.run c n w)
 | 0,w,h=>h
 | n+1,w,h=>by
  unfold Wd.run
  split
  ·rename_i hd;exact zrk n (zqu h hd)
  ·exact h
theorem zq9 (c:Cf) (n:Nat) (w:Wd):Wd.run c (n+1) w=if (w.done:Int)<w.steps then Wd.run c n (w.one c) else w:=rfl
theorem zqa (c:Cf) (n:Nat) (w:Wd):Wd.evs c (n+1) w=if (w.done:Int)<w.steps then w.K.evs c w.bits w.val++Wd.evs c n (w.one c) else []:=rfl
theorem zq8 {c:Cf} {w:Wd} (hd:¬ (w.done:Int)<w.steps):∀ n,Wd.run c n w=w∧Wd.evs c n w=[]
 | 0=>⟨rfl,rfl⟩
 | n+1=>by rw [zq9,zqa,if_neg hd,if_neg hd];exact ⟨rfl,rfl⟩
theorem zqT (c:Cf):∀ (m n:Nat) (w:Wd),Wd.run c (m+n) w=Wd.run c n (Wd.run c m w)∧Wd.evs c (m+n) w=Wd.evs c m w++Wd.evs c n (Wd.run c m w)
 | 0,n,w=>by rw [Nat.zero_add];exact ⟨rfl,rfl⟩
 | m+1,n,w=>by
  by_cases hd:(w.done:Int)<w.steps
  ·obtain ⟨e1,e2⟩:=zqT c m n (w.one c);rw [show m+1+n=(m+n)+1 by omega,zq9,zqa,zq9 c m,zqa c m,if_pos hd,if_pos hd,if_pos hd,if_pos hd,e1,e2,List.append_assoc];exact ⟨rfl,rfl⟩
  ·rw [(zq8 hd _).1,(zq8 hd _).2,(zq8 hd (m+1)).1,(zq8 hd (m+1)).2,(zq8 hd n).1,(zq8 hd n).2];exact ⟨rfl,rfl⟩
theorem zrt (c:Cf):∀ (n:Nat) (w:Wd),(w.done:Int)≤w.steps→((Wd.run c n w).done:Int)=min ((w.done:Int)+n) w.steps∧(Wd.run c n w).steps=w.steps
 | 0,w,h=>⟨by show (w.done:Int)=_;omega,rfl⟩
 | n+1,w,h=>by
  unfold Wd.run
  split
  ·rename_i hd
   obtain ⟨e1,e2⟩:=zrt c n (w.one c) (by show ((w.done+1:Nat):Int)≤w.steps;omega);refine ⟨?_,e2⟩;rw [e1];show min (((w.done+1:Nat):Int)+n) w.steps=_;omega
  ·exact ⟨by omega,rfl⟩
end Go.Proofs.YtgiiidminlhbpaaGreatDoor
namespace Go.Proofs.YtgiiidminlhbpaaGreatDoor
open Go.RowKit Go.Sx Go.Dl Go.Lk Go.Rq Go.Au Go.ChangeShapes Go.WideShapes Go.ChangeAt
instance zqj:Enc Ar 2 where
 enc a:=[.int .i64 a.step,.int .i64 a.line]
 len _:=rfl
 one t:=by intro u hu;simp at hu;rcases hu with rfl | rfl<;>rfl
 dft:=ar0
 pos:=by decide
theorem zry:z1m Tryz.prog 29 92 2 16 (.agg #[.int .i64 0,.int .i64 0]):=⟨by kernel_rfl,by kernel_rfl,rfl⟩
def zQa (w:World) (v:Value) (s:Sc):Prop:=∃ aa ac ta tc,v=.agg #[.slice aa s.ar.length ac,.slice ta s.tape.length tc,.int .i64 s.steps]∧RdR w (.slice aa s.ar.length ac) s.ar∧RdN .u32 w (.slice ta s.tape.length tc) s.tape
theorem zQa.later {w0 w:World} {v:Value} {s:Sc} {P:HP} (h:zQa w0 v s) (hs:Sat w0 w P):zQa w v s:=by
 obtain ⟨aa,ac,ta,tc,e,h1,h2⟩:=h;exact ⟨aa,ac,ta,tc,e,h1.later hs,h2.later hs⟩
section
variable {H:Type} {enc:TypeId×Value→H} {W:World}
theorem cs3 {cs:List Value} {a b c:Value} (hl:cs.length=3) (h0:cs[0]?=some a) (h1:cs[1]?=some b) (h2:cs[2]?=some c):cs=[a,b,c]:=by
 match cs,hl with
 | [_,_,_],_=>simp_all
theorem zrv (n:Nat) (cs:List Value) (x:DataW H×List MemPlace) (h:Trd enc W n 92 cs x):∃ i:Ar,cs=zqj.enc i∧True:=by
 have hu:=Tryz.underlying92;have hs:Tryz.prog.cellsOf 92=2:=by kernel_rfl
 have hi:Tryz.prog.underlying 3=some (.int .i64):=Tryz.underlying3;have ci:Tryz.prog.cellsOf 3=1:=by kernel_rfl
 obtain ⟨m0,a0,_⟩:=z0C hu h (i:=0) (o:=0) (by rw [hs];decide) hi ⟨_,rfl,rfl,rfl,ci⟩;obtain ⟨m1,a1,_⟩:=z0C hu h (i:=1) (o:=1) (by rw [hs];decide) hi ⟨_,rfl,rfl,rfl,ci⟩;exact ⟨⟨m0,m1⟩,cs2 ((z3X hu h).1.trans hs) a0 a1,trivial⟩
theorem zrr {base:Nat} {v:Value} {d:DataW H} {p:List MemPlace} (hok:Value.okWide Tryz.prog W .any base 32 v) (h:DataW.Trod enc Tryz.prog W 0 (fun _=>true) true 32 v d p) :
  ∃ s:Sc,zQa W v s∧∀ x∈s.tape,zG x:=by
 have hu:=Tryz.underlying32;have hs:Tryz.prog.cellsOf 32=3:=by kernel_rfl
 have hi:Tryz.prog.underlying 3=some (.int .i64):=Tryz.underlying3;have hk:Tryz.prog.underlying 25=some (.int .u32):=Tryz.underlying25;have ci:Tryz.prog.cellsOf 3=1:=by kernel_rfl
 have ck:Tryz.prog.cellsOf 25=1:=by kernel_rfl
 have cn:Tryz.prog.cellsOf 30=1:=by kernel_rfl
 have ct:Tryz.prog.cellsOf 29=1:=by kernel_rfl
 obtain ⟨cs,rfl,hsz⟩:=okWide_struct hu hok;obtain ⟨fuel,h⟩:=h;have h:DataW.trod enc Tryz.prog W 0 (fun _=>true) true fuel 32 cs.toList=some (d,p):=h;obtain ⟨v0,n0,y0,a0,h0⟩:=z3A hu h (i:=0) (o:=0) (by rw [hs];decide) ⟨_,rfl,rfl,rfl,ct⟩;obtain ⟨v1,n1,y1,a1,h1⟩:=z3A hu h (i:=1) (o:=1) (by rw [hs];decide) ⟨_,rfl,rfl,rfl,cn⟩;obtain ⟨m2,a2,_⟩:=z0C hu h (i:=2) (o:=2) (by rw [hs];decide) hi ⟨_,rfl,rfl,rfl,ci⟩;have hcs:=cs3 ((z3X hu h).1.trans hs) a0 a1 a2;obtain ⟨_,A,e0,hA,_⟩:=z7R (E:=zqj) Tryz.underlying29 (by kernel_rfl) zrv h0;obtain ⟨_,T,e1,hT,hW⟩:=z7Q Tryz.underlying30 hk ck h1;simp only [List.cons.injEq,and_true] at e0 e1;subst e0;subst e1;obtain ⟨aa,ac,ab,ao,ea,_⟩:=id hA;obtain ⟨ta,tc,tb,tq,et,_⟩:=id hT;subst ea;subst et;refine ⟨⟨m2,A,T⟩,⟨aa,ac,ta,tc,?_,hA,hT⟩,fun x hx=>zbk (hW x hx)⟩;rw [← Array.toArray_toList (xs:=cs),hcs]
end
end Go.Proofs.YtgiiidminlhbpaaGreatDoor
namespace Go.Proofs.YtgiiidminlhbpaaGreatDoor
open Go.RowKit Go.Sx Go.Dl Go.Lk Go.Rq Go.Au
def zqh (l:List Ev):List Ev:=l.filter fun e=>decide (e.k=2)
theorem zqi (a b:List Ev):zqh (a++b)=zqh a++zqh b:=List.filter_append ..
def Nd (K K':Kn):Prop:=zqh K'.told=zqh K.told∧K'.reads=K.reads
section
variable {c:Cf} {K K1 K2:Kn}
theorem Nd.refl (K:Kn):Nd K K:=⟨rfl,rfl⟩
theorem Nd.trans (h:Nd K K1) (h2:Nd K1 K2):Nd K K2:=⟨h2.1.trans h.1,h2.2.trans h.2⟩
theorem Nd.set (h:Nd K K1) (e1:K2.told=K1.told) (e2:K2.reads=K1.reads):Nd K K2:=⟨by rw [e1];exact h.1,by rw [e2];exact h.2⟩
theorem Nd.tell (h:Nd K K1) (kd:Nat) (a b v:Int) (hk:kd≠2):Nd K (K1.tell c kd a b v):=by
 refine ⟨?_,by rw [zer];exact h.2⟩;unfold Kn.tell
 split
 ·show zqh (K1.told++[_])=_;rw [zqi,← h.1];have:zqh [⟨kd,K1.cycle,K1.count,a.toNat,b.toNat,v.toNat⟩]=[]:=by
   unfold zqh;simp only [List.filter_cons,List.filter_nil];rw [if_neg (by simp;omega)]
  rw [this,List.append_nil]
 ·exact h.1
theorem Nd.put (h:Nd K K1) (who:Nat) (n v:Int):Nd K (K1.put who n v):=by
 unfold Kn.put;split
 ·exact h.set rfl rfl
 ·exact h.set rfl rfl
theorem Nd.setT (h:Nd K K1) (t:Nat) (x:Ts):Nd K (K1.setT t x):=h.set rfl rfl
theorem Nd.wake (h:Nd K K1) (t:Nat) (w a:Int):Nd K (K1.wake c t w a):=by
 unfold Kn.wake;dsimp only;exact Nd.set (Nd.tell (by exact h.set rfl rfl) 10 t w 0 (by decide)) rfl rfl
theorem Nd.relev (h:Nd K K1):∀ n,Nd K (K1.relev c n)
 | 0=>h
 | n+1=>by
  unfold Kn.relev;dsimp only
  split
  ·exact Nd.relev h n
  ·exact Nd.set (Nd.tell (Nd.relev h n) 11 n _ 0 (by decide)) rfl rfl
theorem Nd.relevel (h:Nd K K1):Nd K (K1.relevel c):=h.relev _
theorem Nd.post (h:Nd K K1) (who:Int) (s:Nat):Nd K (K1.post c who s):=by
 unfold Kn.post;dsimp only
 split
 ·exact h
 split
 ·exact Nd.wake (Nd.tell (by exact h.set rfl rfl) 14 _ _ _ (by decide)) _ _ _
 ·exact Nd.tell (by exact h.set rfl rfl) 14 _ _ _ (by decide)
theorem Nd.timeout (h:Nd K K1) (t:Nat):Nd K (K1.timeout c t):=by
 unfold Kn.timeout;dsimp only
 split
 ·exact h
 split
 ·exact h.wake _ _ _
 split
 ·exact Nd.wake (by exact h.set rfl rfl) _ _ _
 split
 ·exact Nd.wake (by exact h.set rfl rfl) _ _ _
 split
 ·exact Nd.wake (by exact h.set rfl rfl) _ _ _
 ·exact h.wake _ _ _
theorem Nd.release (h:Nd K K1) (t:Nat):Nd K (K1.release c t):=by
 unfold Kn.release;dsimp only
 by_cases h0:(K1.T t).st=0
 ·rw [if_pos h0]
  split
  ·exact Nd.set (Nd.tell (by exact h.set rfl rfl) 6 _ _ _ (by decide)) rfl rfl
  ·exact Nd.set (Nd.tell (by exact h.set rfl rfl) 6 _ _ _ (by decide)) rfl rfl
 ·rw [if_neg h0]
  split
  ·exact Nd.set (Nd.tell (by exact h.set rfl rfl) 7 _ _ _ (by decide)) rfl rfl
  ·exact Nd.tell (by exact h.set rfl rfl) 7 _ _ _ (by decide)
theorem Nd.over (h:Nd K K1) (id:Int):Nd K (K1.over c id):=by
 unfold Kn.over;dsimp only
 split
 ·exact h.release _
 split
 ·exact h.timeout _
 split
 ·exact Nd.tell (Nd.post (h.tell 18 _ _ _ (by decide)) _ _) 23 _ _ _ (by decide)
 ·exact Nd.post (h.tell 18 _ _ _ (by decide)) _ _
theorem Nd.overs:∀ (l:List Int) {K1:Kn},Nd K K1→Nd K (l.foldl (fun K id=>K.over c id) K1)
 | [],_,h=>h
 | a::l,_,h=>Nd.overs l (h.over a)
theorem Nd.tick (h:Nd K K1):Nd K (K1.tick c):=by
 unfold Kn.tick;dsimp only
 by_cases hf:K1.full
 ·rw [if_pos hf];rw [if_pos (show ({ K1 with stopped:=true }:Kn).stopped=true from rfl)];exact h.set rfl rfl
 ·rw [if_neg hf]
  split
  ·exact h
  ·exact Nd.overs _ (by exact h.set rfl rfl)
theorem Nd.raiseN (h:Nd K K1) (a b:Nat):∀ n,Nd K (K1.raiseN c a b n)
 | 0=>h
 | n+1=>by
  unfold Kn.raiseN;dsimp only
  split
  ·exact Nd.tell (Nd.raiseN h a b n) 1 _ _ _ (by decide)
  ·exact Nd.raiseN h a b n
theorem Nd.raise (h:Nd K K1) (bits:Nat):Nd K (K1.raise c bits):=by
 unfold Kn.raise
 split
 ·exact h
 ·exact Nd.raiseN (by exact h.set rfl rfl) _ _ _
theorem Nd.handed (h:Nd K K1) (t:Nat) (m n:Int):Nd K (K1.handed c t m n):=by
 unfold Kn.handed;dsimp only
 split
 ·exact h.tell 13 _ _ _ (by decide)
 ·exact Nd.tell (Nd.wake (h.tell 13 _ _ _ (by decide)) _ _ _) 12 _ _ _ (by decide)
theorem Nd.give (h:Nd K K1) (t:Nat) (m:Int):Nd K (K1.give c t m):=Nd.handed (by exact h.set rfl rfl) _ _ _
theorem Nd.gives (t:Nat):∀ (l:List Int) {K1:Kn},Nd K K1→Nd K (l.foldl (fun K m=>K.give c t m) K1)
 | [],_,h=>h
 | a::l,_,h=>Nd.gives t l (h.give t a)
theorem Nd.gone (h:Nd K K1) (t:Nat) (s:Int):Nd K (K1.gone c t s):=by
 unfold Kn.gone;dsimp only;exact Nd.relevel (Nd.gives t _ (by exact h.set rfl rfl))
theorem Nd.refuse (h:Nd K K1) (who:Nat) (i:Ins) (e:Int):Nd K (K1.refuse c who i e):=Nd.put (h.tell 23 _ _ _ (by decide)) _ _ _
theorem Nd.hold (h:Nd K K1) (t:Nat) (s o:Int) (i:Ins):Nd K (K1.hold c t s o i):=by
 unfold Kn.hold;dsimp only
 split
 ·exact Nd.tell (by exact h.set rfl rfl) 9 _ _ _ (by decide)
 ·exact Nd.tell (by exact h.set rfl rfl) 9 _ _ _ (by decide)
theorem Nd.send (h:Nd K K1) (who:Nat) (i:Ins):Nd K (K1.send c who i):=by
 unfold Kn.send;dsimp only
 split
 ·split
  ·exact h.refuse _ _ _
  split
  ·exact Nd.set (h.hold _ _ _ _) rfl rfl
  ·exact h.refuse _ _ _
 ·have h1:Nd K ((({ K1 with ml:=upd K1.ml i.k.toNat ((K1.ml i.k.toNat).send K1.L.now (K1.reg who i.b)) }:Kn).put who i.a 0).tell c 16 who i.k (K1.reg who i.b)):=Nd.tell (Nd.put (by exact h.set rfl rfl) _ _ _) 16 _ _ _ (by decide)
  split
  ·exact h1
  ·exact Nd.wake (Nd.tell (Nd.put h1 _ _ _) 17 _ _ _ (by decide)) _ _ _
theorem Nd.recv (h:Nd K K1) (who:Nat) (i:Ins):Nd K (K1.recv c who i):=by
 unfold Kn.recv;dsimp only
 split
 ·split
  ·exact h.refuse _ _ _
  split
  ·exact Nd.set (h.hold _ _ _ _) rfl rfl
  ·exact h.refuse _ _ _
 ·have h1:Nd K (((({ K1 with ml:=upd K1.ml i.k.toNat ((K1.ml i.k.toNat).recv K1.L.now) }:Kn).put who i.b (K1.ml i.k.toNat).recvV).put who i.a 0).tell c 17 who i.k (K1.ml i.k.toNat).recvV):=Nd.tell (Nd.put (Nd.put (by exact h.set rfl rfl) _ _ _) _ _ _) 17 _ _ _ (by decide)
  split
  ·exact h1
  ·exact Nd.wake (Nd.tell h1 16 _ _ _ (by decide)) _ _ _
theorem Nd.lock (h:Nd K K1) (t:Nat) (i:Ins):Nd K (K1.lock c t i):=by
 unfold Kn.lock;dsimp only
 split
 ·exact h.refuse _ _ _
 split
 ·exact Nd.tell (Nd.put (by exact h.set rfl rfl) _ _ _) 12 _ _ _ (by decide)
 ·exact Nd.relevel (Nd.hold (by exact h.set rfl rfl) _ _ _ _)
theorem Nd.unlock (h:Nd K K1) (t:Nat) (i:Ins):Nd K (K1.unlock c t i):=by
 unfold Kn.unlock;dsimp only
 split
 ·exact h.refuse _ _ _
 ·exact Nd.relevel (Nd.handed (Nd.put (by exact h.set rfl rfl) _ _ _) _ _ _)
theorem Nd.await (h:Nd K K1) (t:Nat) (i:Ins):Nd K (K1.await c t i):=by
 unfold Kn.await;dsimp only
 split
 ·exact h.refuse _ _ _
 split
 ·exact Nd.tell (Nd.put (by exact h.set rfl rfl) _ _ _) 15 _ _ _ (by decide)
 split
 ·exact h.refuse _ _ _
 split
 ·exact Nd.set (h.hold _ _ _ _) rfl rfl
 ·exact h.refuse _ _ _
theorem Nd.sleep (h:Nd K K1) (t:Nat) (i:Ins):Nd K (K1.sleep c t i):=by
 unfold Kn.sleep;dsimp only
 split
 ·exact h.put _ _ _
 split
 ·exact h.refuse _ _ _
 ·exact Nd.hold (by exact h.set rfl rfl) _ _ _ _
theorem Nd.next (h:Nd K K1) (t:Nat):Nd K (K1.next c t):=by
 unfold Kn.next;dsimp only
 split
 ·exact Nd.tell (Nd.setT (h.tell 8 t 0 (K1.T t).job (by decide)) _ _) 6 _ _ _ (by decide)
 ·exact Nd.set (h.tell 8 t 0 (K1.T t).job (by decide)) rfl rfl
theorem Nd.timer (h:Nd K K1) (who:Nat) (i:Ins):Nd K (K1.timer c who i):=by
 unfold Kn.timer;dsimp only
 split
 ·exact h.refuse _ _ _
 ·refine Nd.tell (Nd.put ?_ _ _ _) 19 _ _ _ (by decide)
  split
  ·exact h.set rfl rfl
  ·exact h.set rfl rfl
theorem Nd.cost (h:Nd K K1) (n:Int):Nd K (K1.cost n):=h.set rfl rfl
theorem Nd.putCx (h:Nd K K1) (who:Nat) (x:Cx):Nd K (K1.putCx who x):=by
 unfold Kn.putCx;split
 ·exact h.set rfl rfl
 ·exact h.set rfl rfl
def Dv (v:Int) (K K':Kn):Prop:=Nd K K'∨((∃ e:Ev,e.k=2∧e.v=v.toNat∧zqh K'.told=zqh K.told++[e])∧K'.reads=(K.reads+1)%18446744073709551616)
theorem Dv.pre {v:Int} (h:Nd K K1) (h2:Dv v K1 K2):Dv v K K2:=by
 rcases h2 with h2 | ⟨⟨e,a,b,d⟩,f⟩
 ·exact .inl (h.trans h2)
 ·exact .inr ⟨⟨e,a,b,by rw [d,h.1]⟩,by rw [f,h.2]⟩
def Vf (K K1 K2:Kn):Prop:=(K1=K2∧K1.reads=K.reads)∨(K1.reads=(K.reads+1)%18446744073709551616∧K2.reads=(K.reads+1)%18446744073709551616)
theorem Vf.pre (h:Nd K K1) {A B:Kn} (h2:Vf K1 A B):Vf K A B:=by
 rcases h2 with ⟨e,f⟩ | ⟨a,b⟩
 ·exact .inl ⟨e,f.trans h.2⟩
 ·exact .inr ⟨by rw [a,h.2],by rw [b,h.2]⟩
end
theorem z2c {c:Cf} {K:Kn} (h:Inv c K) {t:Nat} (ht:t<c.ts.length) (hs:2≤(K.T t).st∧(K.T t).st≤6):z4A c K t:=by
 have hT:=h.T t ht;have hb:=hT.blk hs.1 hs.2;exact ⟨h.cf,h.S,ht,hb.1,hb.2,hT.lev,(z6H h ht hb.1 hb.2).a⟩
theorem z4A.same {c:Cf} {K K':Kn} {t:Nat} (o:z4A c K t) (e1:K'.T=K.T) (e2:K'.S=K.S):z4A c K' t :=
 ⟨o.cf,by rw [e2];exact o.S,o.lt,by rw [e1];exact o.at1,by rw [e1];exact o.at2,by rw [e1];exact o.lev,by unfold Kn.call;rw [e1];exact o.a⟩
theorem zW {c:Cf} (K:Kn) (kd:Nat) (a b v:Int):(K.tell c kd a b v).told.length≤K.told.length+1:=by unfold Kn.tell;split<;>simp
theorem zfk (b:Nat) (x:Fx) (c:Cf) (K:Kn) (who:Int) (s:Nat) (h:Inv c K) (hw:0≤who∧who≤80) (hsl:s<c.sems.length) (w0 w:World) (F:HP) (hs:Sat w0 w (knP b x c K*F)) (hl:K.told.length≤99990) :
  Calls Tryz.prog 74 #[.pointer (some ⟨b,0,none⟩),.int .i64 who,.int .i64 s] w (zp w0 (.int .i64 (K.postE s)) (knP b x c (K.post c who s)*F)):=by
 have hnt:=h.cf.nt;have hns:=h.cf.ns;have hok:=h.sm s hsl;haveI:Lt s c.sems.length:=⟨hsl⟩;have a1:=x.sa.ad_pos (show 0<c.sems.length by omega);have i1:(s:Int)<(c.sems.length:Int):=by omega
 have d1:decide (s<c.sems.length)=true:=decide_eq_true hsl;have hLev:=hid (fun w G hs=>z43 b x c K w0 w G hs h.L.fit);have hPost:=hid (fun lv w G hs hr=>zkm b x c K w0 w G hs s hsl hok lv K.L.now hr);have hw0:=hw.1;have hw1:=hw.2;have Hl:=hid hl
 by_cases he:K.postE s=0
 ·have hx:K.post c who s=if (K.sm s).2≠[] then ((K.wSm (upd K.sm s (z1Z (K.sm s).1 (K.sm s).2,z2I K.L.now (K.sm s).2))).tell c 14 who s (z1Z (K.sm s).1 (K.sm s).2)).wake c (zD K.L.now (K.sm s).2).toNat 1 0 else (K.wSm (upd K.sm s (z1Z (K.sm s).1 (K.sm s).2,z2I K.L.now (K.sm s).2))).tell c 14 who s (z1Z (K.sm s).1 (K.sm s).2):=by
   unfold Kn.post;exact if_neg (fun a=>a he)
  have he':Go.Proofs.YtgiiidminlhbpaaGreatDoor.postE (K.sm s).1 (K.sm s).2=0:=he;have hu:=z5G hok K.L.now;have hTell:=hid (fun (v:Int) (hv:v=z1Z (K.sm s).1 (K.sm s).2) (kI:Int) (hk:kI=14) (w:World) (G:HP) (hs:Sat w0 w (knP b x c (K.wSm (upd K.sm s (z1Z (K.sm s).1 (K.sm s).2,z2I K.L.now (K.sm s).2)))*G))=>zN b x c (K.wSm (upd K.sm s (z1Z (K.sm s).1 (K.sm s).2,z2I K.L.now (K.sm s).2))) 14 kI hk who s v w0 w G hs h.cf (by decide) ⟨by omega,by omega⟩ ⟨by omega,by omega⟩ (by rw [hv];exact ⟨hu.lo,by have:=hu.hi;omega⟩) (by show K.told.length≤100000;omega));have hUn:=hid (fun (w:World) (G:HP) (hs:Sat w0 w (knP b x c (K.wSm (upd K.sm s (z1Z (K.sm s).1 (K.sm s).2,z2I K.L.now (K.sm s).2)))*G))=>z99 b x c _ w0 w G hs s hsl);have hv0:=hu.lo;have hv1:=hu.hi
  by_cases hr:(K.sm s).2=[]
  ·rw [if_neg (by simp [hr])] at hx;have hpt:z7s K.L.now (K.sm s).2=255:=by unfold z7s;rw [if_neg (by simp [hr])]
   rw [he,hx];have Hr:=hid hr;clear hx hr h hok he hl hw hu
   go_enter Tryz.func74,Tryz.ntmps74
   go_wp2_with fail;refine z9 (w0:=w0) ?_;intro wx hsx;clear hs;refine zj (fun w'=>w'.cell? ⟨b,544,none⟩=some (x.sa.v c.sems.length)∧w'.cell? ⟨x.sa.b,x.sa.o+s,none⟩=some (.pointer (some ⟨x.sb s,0,none⟩))∧w'.cell? ⟨b,543,none⟩=some (.pointer (some ⟨x.lk,0,none⟩))) [(0,true),(1,true),(2,true),(3,true),(4,true),(5,true),(6,true),(7,true),(8,true),(9,true),(10,true),(11,false),(12,false),(13,true),(14,true),(15,true),(16,true),(17,true)] (by kernel_rfl) (by kernel_rfl) (fun _ _ _ _ h=>h) ⟨z4,z4,z4⟩ ?_
   iterate 11 (first | refine zsR ?_ | refine zsQ ?_)
   refine z29 rfl (by rfl) (fun K hK=>?_);go_wp2_with fail;refine (hLev.out _ _ z6).mono ?_;rintro en w1 ⟨lv,rfl,hs1⟩;obtain ⟨la,lc,rfl⟩:=hs1.slice_form;clear hsx;go_wp2_with fail;refine ⟨⟨z4,z4,z4⟩,?_⟩;refine z29 rfl (by rfl) (fun K hK=>?_);go_wp2_with fail;refine (hPost.out _ _ _ own rd).mono ?_;rintro en w2 ⟨rfl,hs2⟩;clear hs1;go_wp2_with fail;refine ⟨⟨z4,z4,z4⟩,?_⟩
   iterate 5 (first | refine zsR ?_ | refine zsQ ?_)
   refine zB ?_;go_wp2_with fail;refine (hUn.out _ _ z6).mono ?_;rintro en w3 ⟨rfl,hs3⟩;clear hs2;go_wp2_with fail;refine (hTell.out _ rfl _ rfl _ _ z6).mono ?_;rintro en w4 ⟨rfl,hs4⟩;clear hs3;go_wp2_with fail;go_ret;exact ⟨rfl,z3⟩
  ·rw [if_pos hr] at hx;have hb:=z1n K.L.now _ hr;have hb2:=h.smr s hsl _ hb;have hb0:=(hok.row.2 _ hb).1;obtain ⟨tn,htn⟩:=Int.eq_ofNat_of_zero_le hb0;have hpt:z7s K.L.now (K.sm s).2=tn:=by unfold z7s;rw [if_pos hr];exact htn
   rw [htn] at hb2;rw [htn] at hx;rw [Int.toNat_natCast] at hb2 hx;have ht64:tn<64:=by omega
   have htl:tn<c.ts.length:=by omega
   have oW:=z2c h htl ⟨by omega,by omega⟩;have hWake:=hid (fun (K':Kn) (e1:K'.T=K.T) (e2:K'.S=K.S) (hl:K'.told.length≤100000) (w:World) (G:HP) (hs:Sat w0 w (knP b x c K'*G))=>zax b x c K' tn (oW.same e1 e2) 1 0 (.inr rfl) (by decide) w0 w G hs hl);have hlt:=hid (fun K' (e:K'=(K.wSm (upd K.sm s (z1Z (K.sm s).1 (K.sm s).2,z2I K.L.now (K.sm s).2))).tell c 14 who s (z1Z (K.sm s).1 (K.sm s).2))=>(show K'.told.length≤100000 by rw [e];exact Nat.le_trans (zW _ _ _ _ _) (by show K.told.length+1≤100000;omega)));have e5:((tn:Int)==255)=false:=by simp;omega
   rw [he,hx];clear hx hr h hok he hl hw hu hb hb0 htn oW hb2
   go_enter Tryz.func74,Tryz.ntmps74
   go_wp2_with fail;refine z9 (w0:=w0) ?_;intro wx hsx;clear hs;refine zj (fun w'=>w'.cell? ⟨b,544,none⟩=some (x.sa.v c.sems.length)∧w'.cell? ⟨x.sa.b,x.sa.o+s,none⟩=some (.pointer (some ⟨x.sb s,0,none⟩))∧w'.cell? ⟨b,543,none⟩=some (.pointer (some ⟨x.lk,0,none⟩))) [(0,true),(1,true),(2,true),(3,true),(4,true),(5,true),(6,true),(7,true),(8,true),(9,true),(10,true),(11,false),(12,false),(13,true),(14,true),(15,true),(16,true),(17,true)] (by kernel_rfl) (by kernel_rfl) (fun _ _ _ _ h=>h) ⟨z4,z4,z4⟩ ?_
   iterate 11 (first | refine zsR ?_ | refine zsQ ?_)
   refine z29 rfl (by rfl) (fun K hK=>?_);go_wp2_with fail;refine (hLev.out _ _ z6).mono ?_;rintro en w1 ⟨lv,rfl,hs1⟩;obtain ⟨la,lc,rfl⟩:=hs1.slice_form;clear hsx;go_wp2_with fail;refine ⟨⟨z4,z4,z4⟩,?_⟩;refine z29 rfl (by rfl) (fun K hK=>?_);go_wp2_with fail;refine (hPost.out _ _ _ own rd).mono ?_;rintro en w2 ⟨rfl,hs2⟩;clear hs1;go_wp2_with fail;refine ⟨⟨z4,z4,z4⟩,?_⟩
   iterate 5 (first | refine zsR ?_ | refine zsQ ?_)
   refine zB ?_;go_wp2_with fail;refine (hUn.out _ _ z6).mono ?_;rintro en w3 ⟨rfl,hs3⟩;clear hs2;go_wp2_with fail;refine (hTell.out _ rfl _ rfl _ _ z6).mono ?_;rintro en w4 ⟨rfl,hs4⟩;clear hs3;go_wp2_with fail;refine (hWake.out _ ?_ ?_ ?_ _ _ z6).mono ?_
   ·exact z01 _ _ _ _
   ·exact z3V _ _ _ _
   ·exact hlt.out _ rfl
   rintro en w5 ⟨rfl,hs5⟩;go_wp2_with fail;go_ret;exact ⟨rfl,z3⟩
 ·have hx:K.post c who s=K:=by unfold Kn.post;exact if_pos he
  have hl0:(K.sm s).2=[]∧(K.sm s).1=255:=by
   unfold Kn.postE postE at he
   repeat' split at he
   all_goals first | exact absurd rfl he | (rename_i g1 g2;exact ⟨Classical.not_not.1 g1,g2⟩)
  have he7:Go.Proofs.YtgiiidminlhbpaaGreatDoor.postE (K.sm s).1 (K.sm s).2=7:=by unfold postE;rw [if_neg (show ¬ (K.sm s).2≠[] by simp [hl0.1]),if_pos hl0.2]
  have hpt:z7s K.L.now (K.sm s).2=255:=by unfold z7s;rw [if_neg (show ¬ (K.sm s).2≠[] by simp [hl0.1])]
  have hsame:K.wSm (upd K.sm s (z1Z (K.sm s).1 (K.sm s).2,z2I K.L.now (K.sm s).2))=K:=by
   have e1:(z1Z (K.sm s).1 (K.sm s).2,z2I K.L.now (K.sm s).2)=K.sm s:=by
    unfold z1Z z2I;rw [if_neg (show ¬ (K.sm s).2≠[] by simp [hl0.1]),if_neg (show ¬ (K.sm s).2≠[] by simp [hl0.1]),if_pos hl0.2]
   rw [e1,z10];rfl
  rw [hsame] at hPost;have hee:K.postE s=7:=he7;rw [hx,hee];clear hx hl0 hsame he h hok hl hw hee
  go_enter Tryz.func74,Tryz.ntmps74
  go_wp2_with fail;refine z9 (w0:=w0) ?_;intro wx hsx;clear hs;refine zj (fun w'=>w'.cell? ⟨b,544,none⟩=some (x.sa.v c.sems.length)∧w'.cell? ⟨x.sa.b,x.sa.o+s,none⟩=some (.pointer (some ⟨x.sb s,0,none⟩))∧w'.cell? ⟨b,543,none⟩=some (.pointer (some ⟨x.lk,0,none⟩))) [(0,true),(1,true),(2,true),(3,true),(4,true),(5,true),(6,true),(7,true),(8,true),(9,true),(10,true),(11,false),(12,false),(13,true),(14,true),(15,true),(16,true),(17,true)] (by kernel_rfl) (by kernel_rfl) (fun _ _ _ _ h=>h) ⟨z4,z4,z4⟩ ?_
  iterate 11 (first | refine zsR ?_ | refine zsQ ?_)
  refine z29 rfl (by rfl) (fun K hK=>?_);go_wp2_with fail;refine (hLev.out _ _ z6).mono ?_;rintro en w1 ⟨lv,rfl,hs1⟩;obtain ⟨la,lc,rfl⟩:=hs1.slice_form;clear hsx;go_wp2_with fail;refine ⟨⟨z4,z4,z4⟩,?_⟩;refine z29 rfl (by rfl) (fun K hK=>?_);go_wp2_with fail;refine (hPost.out _ _ _ own rd).mono ?_;rintro en w2 ⟨rfl,hs2⟩;clear hs1;go_wp2_with fail;refine ⟨⟨z4,z4,z4⟩,?_⟩
  iterate 5 (first | refine zsR ?_ | refine zsQ ?_)
  refine zB ?_;go_wp2_with fail;go_ret;exact ⟨rfl,z3⟩
theorem zd0 (b:Nat) (x:Fx) (c:Cf) (K:Kn) (t:Nat) (m next:Int) (cf:z7T c) (ht:t<64) (hm:0≤m∧m<32) (hn:next=255∨∃ tn:Nat,next=tn∧z4A c K tn) (w0 w:World) (F:HP) (hs:Sat w0 w (knP b x c K*F)) (hl:K.told.length≤99990) :
  Calls Tryz.prog 122 #[.pointer (some ⟨b,0,none⟩),.int .i64 t,.int .i64 m,.int .i64 next] w (zp w0 (.tuple #[]) (knP b x c (K.handed c t m next)*F)):=by
 have hT:=hid (fun (kI:Int) (hk:kI=13) (w:World) (G:HP) (hs:Sat w0 w (knP b x c K*G))=>zN b x c K 13 kI hk t m 0 w0 w G hs cf (by decide) ⟨by omega,by omega⟩ ⟨by omega,by omega⟩ ⟨by decide,by decide⟩ (by omega))
 rcases hn with rfl | ⟨tn,rfl,o⟩
 ·have e:K.handed c t m 255=K.tell c 13 t m 0:=rfl;rw [e];clear e hm hl cf
  go_enter Tryz.func122,Tryz.ntmps122
  go_wp2_with fail;refine (hT.out _ rfl _ _ z6).mono ?_;rintro en w1 ⟨rfl,hs1⟩;go_wp2_with fail
  go_end0
  exact ⟨rfl,hs1⟩
 ·have hnt:=cf.nt;have htn:=o.lt;have e:K.handed c t m tn=((K.tell c 13 t m 0).wake c tn 1 0).tell c 12 tn m 0:=by
   unfold Kn.handed;dsimp only;rw [if_neg (show ¬ (tn:Int)=255 by omega),Int.toNat_natCast]
  rw [e];have l1:=zW (c:=c) K 13 t m 0;have hW:=hid (fun (w:World) (G:HP) (hs:Sat w0 w (knP b x c (K.tell c 13 t m 0)*G))=>zax b x c (K.tell c 13 t m 0) tn (o.same (z01 _ _ _ _) (z3V _ _ _ _)) 1 0 (.inr rfl) (by decide) w0 w G hs (by omega));have l2:=(z2M (K:=K.tell c 13 t m 0) cf (t:=tn) (why:=1) (a:=0) (by omega) (.inr rfl)).len;have hT2:=hid (fun (kI:Int) (hk:kI=12) (w:World) (G:HP) (hs:Sat w0 w (knP b x c ((K.tell c 13 t m 0).wake c tn 1 0)*G))=>zN b x c _ 12 kI hk tn m 0 w0 w G hs cf (by decide) ⟨by omega,by omega⟩ ⟨by omega,by omega⟩ ⟨by decide,by decide⟩ (by omega));have e5:((tn:Int)==255)=false:=by simp;omega
  clear e hm hl cf l1 l2 o
  go_enter Tryz.func122,Tryz.ntmps122
  go_wp2_with fail;refine (hT.out _ rfl _ _ z6).mono ?_;rintro en w1 ⟨rfl,hs1⟩;go_wp2_with fail;refine (hW.out _ _ z6).mono ?_;rintro en w2 ⟨rfl,hs2⟩;go_wp2_with fail;refine (hT2.out _ rfl _ _ z6).mono ?_;rintro en w3 ⟨rfl,hs3⟩;go_wp2_with fail
  go_end0
  exact ⟨rfl,hs3⟩
theorem zfu (b:Nat) (x:Fx) (c:Cf) (K:Kn) (t:Nat) (h:Inv c K) (ht:t<c.ts.length) (hst:(K.T t).st=1∨z4Z (K.T t)) (w0 w:World) (F:HP) (hs:Sat w0 w (knP b x c K*F)) (hl:K.told.length≤99990) :
  Calls Tryz.prog 72 #[.pointer (some ⟨b,0,none⟩),.int .i64 t] w (zp w0 (.tuple #[]) (knP b x c (K.timeout c t)*F)):=by
 have hnt:=h.cf.nt;have hns:=h.cf.ns;have hnq:=h.cf.nq;haveI:Lt t c.ts.length:=⟨ht⟩;have a1:=x.ta.ad_pos (show 0<c.ts.length by omega);have i1:(t:Int)<(c.ts.length:Int):=by omega
 have d1:decide (t<c.ts.length)=true:=decide_eq_true ht;have hT:=h.T t ht
 rcases hst with e | e
 ·have hx:K.timeout c t=K:=by unfold Kn.timeout;exact if_pos e
  rw [hx];clear h hT hx hl
  go_enter Tryz.func72,Tryz.ntmps72
  go_wp2_with fail
  go_end0
  exact ⟨rfl,z6⟩
 ·have oW:=z2c h ht (by unfold z4Z at e;omega);have hWake:=hid (fun (a:Int) (ha:0≤a∧a≤16) (K':Kn) (e1:K'.T=K.T) (e2:K'.S=K.S) (hl:K'.told.length≤100000) (w:World) (G:HP) (hs:Sat w0 w (knP b x c K'*G))=>zax b x c K' t (oW.same e1 e2) 0 a (.inl rfl) ha w0 w G hs hl);have Hl:=hid (show K.told.length≤100000 by omega)
  rcases e with e | e | e | e
  ·have hx:K.timeout c t=K.wake c t 0 0:=by unfold Kn.timeout;dsimp only;rw [if_neg (by omega),if_pos e]
   rw [hx];clear h hT hx hl oW
   go_enter Tryz.func72,Tryz.ntmps72
   go_wp2_with fail;refine (hWake.out _ ?_ _ rfl rfl Hl.out _ _ z6).mono ?_
   ·decide
   rintro en w1 ⟨rfl,hs1⟩;go_wp2_with fail
   go_end0
   exact ⟨rfl,hs1⟩
  ·have hb:=hT.on4 e;obtain ⟨s,hs'⟩:=Int.eq_ofNat_of_zero_le (show 0≤(K.T t).on-64 by omega);have hsl:s<c.sems.length:=by omega
   haveI:Lt s c.sems.length:=⟨hsl⟩;have a2:=x.sa.ad_pos (show 0<c.sems.length by omega);have i2:(s:Int)<(c.sems.length:Int):=by omega
   have d2:decide (s<c.sems.length)=true:=decide_eq_true hsl;have w1:IntKind.i64.wrap ((K.T t).on-64)=(s:Int):=by rw [hs'];rw [IntKind.wrap_i64];omega
   have hx:K.timeout c t=(K.wSm (upd K.sm s ((K.sm s).1,(K.sm s).2.erase t))).wake c t 0 9:=by unfold Kn.timeout;dsimp only;rw [if_neg (show ¬ (K.T t).st=1 by omega),if_neg (show ¬ (K.T t).st=2 by omega),if_pos e,hs',Int.toNat_natCast];rfl
   have hC:=hid (fun w G hs=>zfq b x c K w0 w G hs s hsl (h.sm s hsl) t);rw [hx];clear h hT hx hl oW hs' hb
   go_enter Tryz.func72,Tryz.ntmps72
   go_wp2_with fail;refine z9 (w0:=w0) ?_;intro wx hsx;go_still_tail 12,(by kernel_rfl);change wpList _ _ _ _ _ wx.drew;go_wp2_with fail;refine (hC.out _ _ z6).mono ?_;rintro en w2 ⟨rfl,hs2⟩;clear hsx;go_wp2_with fail;refine (hWake.out _ ?_ _ ?_ ?_ ?_ _ _ z6).mono ?_
   ·decide
   ·rfl
   ·rfl
   ·exact Hl.out
   rintro en w1 ⟨rfl,hs1⟩;go_wp2_with fail
   go_end0
   exact ⟨rfl,hs1⟩
  ·have hb:=hT.on5 e;obtain ⟨s,hs'⟩:=Int.eq_ofNat_of_zero_le (show 0≤(K.T t).on-96 by omega);have hsl:s<c.queues.length:=by omega
   haveI:Lt s c.queues.length:=⟨hsl⟩;have a2:=x.qa.ad_pos (show 0<c.queues.length by omega);have i2:(s:Int)<(c.queues.length:Int):=by omega
   have d2:decide (s<c.queues.length)=true:=decide_eq_true hsl;have w1:IntKind.i64.wrap ((K.T t).on-96)=(s:Int):=by rw [hs'];rw [IntKind.wrap_i64];omega
   have hx:K.timeout c t=(K.wMl (upd K.ml s ((K.ml s).cancel t))).wake c t 0 9:=by unfold Kn.timeout;dsimp only;rw [if_neg (show ¬ (K.T t).st=1 by omega),if_neg (show ¬ (K.T t).st=2 by omega),if_neg (show ¬ (K.T t).st=4 by omega),if_pos e,hs',Int.toNat_natCast];rfl
   have hC:=hid (fun w G hs=>zan b x c K w0 w G hs s hsl (h.ml s hsl).1 t);rw [hx];clear h hT hx hl oW hs' hb
   go_enter Tryz.func72,Tryz.ntmps72
   go_wp2_with fail;refine z9 (w0:=w0) ?_;intro wx hsx;go_still_tail 12,(by kernel_rfl);change wpList _ _ _ _ _ wx.drew;go_wp2_with fail;refine (hC.out _ _ z6).mono ?_;rintro en w2 ⟨rfl,hs2⟩;clear hsx;go_wp2_with fail;refine (hWake.out _ ?_ _ ?_ ?_ ?_ _ _ z6).mono ?_
   ·decide
   ·rfl
   ·rfl
   ·exact Hl.out
   rintro en w1 ⟨rfl,hs1⟩;go_wp2_with fail
   go_end0
   exact ⟨rfl,hs1⟩
  ·have hb:=hT.on6 e;obtain ⟨s,hs'⟩:=Int.eq_ofNat_of_zero_le (show 0≤(K.T t).on-128 by omega);have hsl:s<c.queues.length:=by omega
   haveI:Lt s c.queues.length:=⟨hsl⟩;have a2:=x.qa.ad_pos (show 0<c.queues.length by omega);have i2:(s:Int)<(c.queues.length:Int):=by omega
   have d2:decide (s<c.queues.length)=true:=decide_eq_true hsl;have w1:IntKind.i64.wrap ((K.T t).on-128)=(s:Int):=by rw [hs'];rw [IntKind.wrap_i64];omega
   have hx:K.timeout c t=(K.wMl (upd K.ml s ((K.ml s).cancel t))).wake c t 0 9:=by unfold Kn.timeout;dsimp only;rw [if_neg (show ¬ (K.T t).st=1 by omega),if_neg (show ¬ (K.T t).st=2 by omega),if_neg (show ¬ (K.T t).st=4 by omega),if_neg (show ¬ (K.T t).st=5 by omega),if_pos e,hs',Int.toNat_natCast];rfl
   have hC:=hid (fun w G hs=>zan b x c K w0 w G hs s hsl (h.ml s hsl).1 t);rw [hx];clear h hT hx hl oW hs' hb
   go_enter Tryz.func72,Tryz.ntmps72
   go_wp2_with fail;refine z9 (w0:=w0) ?_;intro wx hsx;go_still_tail 12,(by kernel_rfl);change wpList _ _ _ _ _ wx.drew;go_wp2_with fail;refine (hC.out _ _ z6).mono ?_;rintro en w2 ⟨rfl,hs2⟩;clear hsx;go_wp2_with fail;refine (hWake.out _ ?_ _ ?_ ?_ ?_ _ _ z6).mono ?_
   ·decide
   ·rfl
   ·rfl
   ·exact Hl.out
   rintro en w1 ⟨rfl,hs1⟩;go_wp2_with fail
   go_end0
   exact ⟨rfl,hs1⟩
theorem zaY (c:Cf) (K:Kn):∀ n,(K.relev c n).told.length≤K.told.length+n
 | 0=>Nat.le_refl _
 | n+1=>by
  have h:=zaY c K n;unfold Kn.relev;dsimp only
  split
  ·omega
  ·have:=zW (c:=c) (K.relev c n) 11 n (lg (K.relev c n).L.now n) 0;show ((K.relev c n).tell c 11 n (lg (K.relev c n).L.now n) 0).told.length≤_;omega
theorem zek (c:Cf) (K:Kn) (n lv:Nat) (e:lg (K.relev c n).L.now n=lv) (ne:¬ ((K.relev c n).T n).lev=lv) :
  ((((K.relev c n).tell c 11 n lv 0).wR (z6b ((K.relev c n).tell c 11 n lv 0).R n lv)).wLev n lv)=K.relev c (n+1):=by
 have h:K.relev c (n+1)=if ((K.relev c n).T n).lev=lg (K.relev c n).L.now n then K.relev c n else _:=rfl;rw [h,if_neg (by rw [e];exact ne),e]
 rfl
theorem zej (c:Cf) (K:Kn) (n:Nat) (e:((K.relev c n).T n).lev=lg (K.relev c n).L.now n):K.relev c n=K.relev c (n+1):=by
 have h:K.relev c (n+1)=if ((K.relev c n).T n).lev=lg (K.relev c n).L.now n then K.relev c n else _:=rfl;rw [h,if_pos e]
theorem z7c (b:Nat) (x:Fx) (c:Cf) (K:Kn) (h:Inv c K) (w0 w:World) (F:HP) (hs:Sat w0 w (knP b x c K*F)) (hl:K.told.length≤99900) :
  Calls Tryz.prog 123 #[.pointer (some ⟨b,0,none⟩)] w (zp w0 (.tuple #[]) (knP b x c (K.relevel c)*F)):=by
 have hnt:=h.cf.nt;have cf:=hid h.cf;have hI:=hid (fun n (hn:n≤c.ts.length)=>z4K h n hn);have hLev:=hid (fun w G hs=>z43 b x c K w0 w G hs h.L.fit);have hn:K.L.now.length=c.ts.length:=h.L.fit.ln.trans h.Ln;have Hl:=hid hl;clear h hl;unfold Kn.relevel;rw [← hn];have Hn:=hid hn;clear hn
 go_enter Tryz.func123,Tryz.ntmps123
 go_wp2_with fail;refine (hLev.out _ _ z6).mono ?_;rintro en w1 ⟨lv,rfl,hs1⟩;obtain ⟨la,lc,rfl⟩:=hs1.slice_form;clear hs;go_wp2_with fail
 go_loopw [11] (fun i wr=>∃ k:Nat,k≤K.L.now.length∧i=.int .i64 k∧Sat w0 wr (z5 .i64 (.slice la K.L.now.length lc) K.L.now*(knP b x c (K.relev c k)*F))) (fun i _=>K.L.now.length-(intOf i).toNat)
 case atStart=>exact ⟨0,Nat.zero_le _,rfl,hs1⟩
 case round =>
  obtain ⟨k,hk,rfl,hs3⟩:=hrel;clear hs1
  by_cases hlt:k<K.L.now.length
  ·obtain ⟨I,_,eL⟩:=hI.out k (by have:=Hn.out;omega);have hlt':k<c.ts.length:=by have:=Hn.out;omega
   have hr:=I.L.fit.nowr k (by rw [I.Ln];exact hlt');obtain ⟨v,hv⟩:=Int.eq_ofNat_of_zero_le hr.1;have hv32:v<32:=by omega
   have hv2:K.L.now[k]'hlt=(v:Int):=by rw [← hv,eL];unfold z1q lg;simp [List.getD,hlt]
   have hlen:=hid (zaY c K k);obtain ⟨a7,cap7,g,off,e7,_,_,ha7,_⟩:=hs3.rdN;obtain ⟨rfl, -,rfl⟩:la=a7∧K.L.now.length=K.L.now.length∧lc=cap7:=by simpa using e7
   obtain rfl:=ha7 (by intro h;simp [h] at hlt);clear ha7;haveI:Lt k c.ts.length:=⟨hlt'⟩;haveI:Lt k K.L.now.length:=⟨hlt⟩;have a1:=x.ta.ad_pos (show 0<c.ts.length by omega);have i1:(k:Int)<(c.ts.length:Int):=by omega
   have d1:decide (k<c.ts.length)=true:=decide_eq_true hlt';have d2:decide (k<K.L.now.length)=true:=decide_eq_true hlt;have hTell:=hid (fun (K':Kn) (hl:K'.told.length≤100000) (kI:Int) (hk:kI=11) (w:World) (G:HP) (hs:Sat w0 w (knP b x c K'*G))=>zN b x c K' 11 kI hk k v 0 w0 w G hs cf.out (by decide) ⟨by omega,by omega⟩ ⟨by omega,by omega⟩ ⟨by decide,by decide⟩ hl)
   by_cases he:((K.relev c k).T k).lev=(v:Int)
   ·have hnx:=hid (zej c K k (he.trans hv.symm));clear I eL hr hv;go_wp2_with fail;go_roundw
    case rel=>exact ⟨k+1,by omega,by go_num,by rw [← hnx.out];exact z6⟩
    case measure=>simp [intOf];omega
   ·have hnx:=hid (zek c K k v hv he);have ne:(((K.relev c k).T k).lev==(v:Int))=false:=by simp [he]
    clear I eL hr hv he;generalize K.relev c k=K1 at *;go_wp2_with fail;refine (hTell.out K1 ?_ _ rfl _ _ own).mono ?_
    ·have:=Hl.out;have:=hlen.out;omega
    rintro en w2 ⟨rfl,hs4⟩;clear hs3;go_wp2_with fail;refine (zki b x c (K1.tell c 11 k v 0) w0 _ _ own k v (by omega) hv32).mono ?_;rintro en w3 ⟨rfl,hs5⟩;clear hs4;go_wp2_with fail;go_roundw
    case rel=>exact ⟨k+1,by omega,by go_num,by rw [← hnx.out];exact z3⟩
    case measure=>simp [intOf];omega
  ·have hk':k=K.L.now.length:=by omega
   subst hk';have d1:decide (K.L.now.length<K.L.now.length)=false:=by simp
   clear hI hlt;go_wp2_with fail
   all_goals
    go_end0
    exact ⟨rfl,z3⟩
theorem zgk (c:Cf) (K:Kn) (t l:Nat) (hl:(K.T t).lev=l) (e:(K.T t).st=0) (p:¬ 0<(tcg c t).per) :
  ((((K.wJob t (((K.T t).job+1)%4294967296)).wSt t 1).tell c 6 t 0 (((K.T t).job+1)%4294967296)).wR (z9N (((K.wJob t (((K.T t).job+1)%4294967296)).wSt t 1).tell c 6 t 0 (((K.T t).job+1)%4294967296)).R t l))=K.release c t:=by
 unfold Kn.release;dsimp only;rw [if_pos e,if_neg p,show (K.T t).lev.toNat=l by rw [hl];rfl];unfold Kn.wSt Kn.wJob;rw [z2V,z8]
 rfl
theorem zeh (c:Cf) (K:Kn) (t l:Nat) (hl:(K.T t).lev=l) (e:(K.T t).st=0) (p:0<(tcg c t).per) :
  (((((K.wJob t (((K.T t).job+1)%4294967296)).wSt t 1).tell c 6 t 0 (((K.T t).job+1)%4294967296)).wR (z9N (((K.wJob t (((K.T t).job+1)%4294967296)).wSt t 1).tell c 6 t 0 (((K.T t).job+1)%4294967296)).R t l))).wS (z5B K.S t (tcg c t).per)=K.release c t:=by
 unfold Kn.release;dsimp only;rw [if_pos e,if_pos p,show (K.T t).lev.toNat=l by rw [hl];rfl];unfold Kn.wSt Kn.wJob;rw [z2V,z8];show Kn.wS _ _=_
 congr 1
 show z5B K.S _ _=z5B (Kn.tell _ _ _ _ _ _).S _ _;rw [z3V];rfl
theorem zgl (c:Cf) (K:Kn) (t:Nat) (e:¬ (K.T t).st=0) (p:¬ 0<(tcg c t).per) :
  ((K.wLate t (min ((K.T t).late+1) 255)).tell c 7 t 0 (min ((K.T t).late+1) 255))=K.release c t:=by
 unfold Kn.release;dsimp only;rw [if_neg e,if_neg p]
 rfl
theorem zei (c:Cf) (K:Kn) (t:Nat) (e:¬ (K.T t).st=0) (p:0<(tcg c t).per) :
  ((K.wLate t (min ((K.T t).late+1) 255)).tell c 7 t 0 (min ((K.T t).late+1) 255)).wS (z5B K.S t (tcg c t).per)=K.release c t:=by
 unfold Kn.release;dsimp only;rw [if_neg e,if_pos p];show Kn.wS _ _=_
 congr 1
 show z5B K.S _ _=z5B (Kn.tell _ _ _ _ _ _).S _ _;rw [z3V];rfl
theorem zfn (b:Nat) (x:Fx) (c:Cf) (K:Kn) (t:Nat) (h:Inv c K) (ht:t<c.ts.length) (w0 w:World) (F:HP) (hs:Sat w0 w (knP b x c K*F)) (hl:K.told.length≤99990) :
  Calls Tryz.prog 71 #[.pointer (some ⟨b,0,none⟩),.int .i64 t] w (zp w0 (.tuple #[]) (knP b x c (K.release c t)*F)):=by
 have hnt:=h.cf.nt;haveI:Lt t c.ts.length:=⟨ht⟩;have a1:=x.ta.ad_pos (show 0<c.ts.length by omega);have a3:=x.c.ct.ad_pos (show 0<c.ts.length by omega);have i1:(t:Int)<(c.ts.length:Int):=by omega
 have d1:decide (t<c.ts.length)=true:=decide_eq_true ht;have hT:=h.T t ht;have hlev:=hT.lev;obtain ⟨lv,hlv⟩:=Int.eq_ofNat_of_zero_le hlev.1;have hlv32:lv<32:=by omega
 have hS:=hid h.S;have hTell:=hid (fun (kd:Nat) (hk:kd=6∨kd=7) (kI:Int) (hkI:kI=kd) (v:Int) (hv:zG v) (K':Kn) (hl:K'.told.length≤100000) (w:World) (G:HP) (hs:Sat w0 w (knP b x c K'*G))=>zN b x c K' kd kI hkI t 0 v w0 w G hs h.cf (by omega) ⟨by omega,by omega⟩ ⟨by omega,by omega⟩ hv hl);have Hl:=hid (show K.told.length≤100000 by omega);have hlate:=hT.late
 by_cases e:(K.T t).st=0
 ·obtain ⟨j,hj⟩:∃ j,j=((K.T t).job+1)%4294967296:=⟨_,rfl⟩;have hw1:IntKind.u32.wrap ((K.T t).job+1)=j:=by rw [IntKind.wrap_u32,hj]
  have hrj:=hid (show zG j from ⟨by omega,by omega⟩)
  by_cases p:0<(tcg c t).per
  ·have hx:=hid (zeh c K t lv hlv e p);rw [← hj] at hx;have dp:decide (0<(tcg c t).per)=true:=decide_eq_true p;rw [← hx.out];clear h hT hx hl hlev hj p hlate
   go_enter Tryz.func71,Tryz.ntmps71
   go_wp2_with fail;refine (hTell.out 6 (.inl rfl) _ rfl _ hrj.out _ ?_ _ _ z6).mono ?_
   ·exact Hl.out
   rintro en w1 ⟨rfl,hs1⟩;clear hs;go_wp2_with fail;refine z9 (w0:=w0) ?_;intro wx hsx;go_still_tail 8,(by kernel_rfl);change wpList _ _ _ _ _ wx.drew;go_wp2_with fail;refine (zfp b x c _ w0 _ _ z6 t lv (by omega) hlv32).mono ?_;rintro en w4 ⟨vr,rfl,hs4⟩;clear hs1 hsx;go_wp2_with fail;refine (zdV b x c _ w0 _ _ z6 ?_ t (tcg c t).per).mono ?_
   ·show SOk (Kn.tell _ _ _ _ _ _).S;rw [z3V];exact hS.out
   rintro en w5 ⟨rfl,hs5⟩;clear hs4;go_wp2_with fail
   all_goals
    go_end0
    refine ⟨rfl,?_⟩;have e7:(((K.wJob t j).wSt t 1).tell c 6 t 0 j).S=K.S:=z3V _ _ _ _
    simpa only [Kn.wR_S,e7] using hs5
  ·have hx:=hid (zgk c K t lv hlv e p);rw [← hj] at hx;have dp:decide (0<(tcg c t).per)=false:=decide_eq_false p;rw [← hx.out];clear h hT hx hl hlev hj p hlate
   go_enter Tryz.func71,Tryz.ntmps71
   go_wp2_with fail;refine (hTell.out 6 (.inl rfl) _ rfl _ hrj.out _ ?_ _ _ z6).mono ?_
   ·exact Hl.out
   rintro en w1 ⟨rfl,hs1⟩;clear hs;go_wp2_with fail;refine z9 (w0:=w0) ?_;intro wx hsx;go_still_tail 8,(by kernel_rfl);change wpList _ _ _ _ _ wx.drew;go_wp2_with fail;refine (zfp b x c _ w0 _ _ z6 t lv (by omega) hlv32).mono ?_;rintro en w4 ⟨vr,rfl,hs4⟩;clear hs1 hsx;go_wp2_with fail
   all_goals
    go_end0
    exact ⟨rfl,hs4⟩
 ·have e9:((K.T t).st==0)=false:=by simp [e]
  have h1:=fun p=>zei c K t e p;have h2:=fun p=>zgl c K t e p
  rcases (show (K.T t).late+1≤255∨(K.T t).late=255 by omega) with g | g
  ·obtain ⟨j,hj⟩:∃ j,j=(K.T t).late+1:=⟨_,rfl⟩;have hm:min ((K.T t).late+1) 255=j:=by omega
   rw [← hj] at g;have q0:(K.T t).late+1=j:=hj.symm;have q1:IntKind.i64.wrap ((K.T t).late+1)=j:=by rw [IntKind.wrap_i64];omega
   have q4:IntKind.i64.wrap j=j:=by rw [IntKind.wrap_i64];omega
   have q2:IntKind.u32.wrap j=j:=by rw [IntKind.wrap_u32];omega
   have q3:j%4294967296=j:=by omega
   have hrj:=hid (show zG j from ⟨by omega,by omega⟩)
   by_cases p:0<(tcg c t).per
   ·have hx:=hid (h1 p);rw [hm] at hx;have dp:decide (0<(tcg c t).per)=true:=decide_eq_true p;rw [← hx.out];clear h hT hx hl hlev p hlate e h1 h2 hj hm
    go_enter Tryz.func71,Tryz.ntmps71
    go_wp2_with fail;refine (hTell.out 7 (.inr rfl) _ rfl _ ?_ _ ?_ _ _ z6).mono ?_
    ·exact hrj.out
    ·exact Hl.out
    rintro en w1 ⟨rfl,hs1⟩;clear hs;go_wp2_with fail;refine (zdV b x c _ w0 _ _ z6 ?_ t (tcg c t).per).mono ?_
    ·show SOk (Kn.tell _ _ _ _ _ _).S;rw [z3V];exact hS.out
    rintro en w5 ⟨rfl,hs5⟩;go_wp2_with fail
    all_goals
     go_end0
     refine ⟨rfl,?_⟩;have e7:((K.wLate t j).tell c 7 t 0 j).S=K.S:=z3V _ _ _ _
     simpa only [e7] using hs5
   ·have hx:=hid (h2 p);rw [hm] at hx;have dp:decide (0<(tcg c t).per)=false:=decide_eq_false p;rw [← hx.out];clear h hT hx hl hlev p hlate e h1 h2 hj hm
    go_enter Tryz.func71,Tryz.ntmps71
    go_wp2_with fail;refine (hTell.out 7 (.inr rfl) _ rfl _ ?_ _ ?_ _ _ z6).mono ?_
    ·exact hrj.out
    ·exact Hl.out
    rintro en w1 ⟨rfl,hs1⟩;clear hs;go_wp2_with fail
    all_goals
     go_end0
     exact ⟨rfl,hs1⟩
  ·have hm:min ((K.T t).late+1) 255=255:=by omega
   by_cases p:0<(tcg c t).per
   ·have hx:=hid (h1 p);rw [hm] at hx;have dp:decide (0<(tcg c t).per)=true:=decide_eq_true p;rw [← hx.out];clear h hT hx hl hlev p hlate e h1 h2 hm
    go_enter Tryz.func71,Tryz.ntmps71
    go_wp2_with fail;refine (hTell.out 7 (.inr rfl) _ rfl _ ?_ _ ?_ _ _ z6).mono ?_
    ·exact ⟨by omega,by omega⟩
    ·exact Hl.out
    rintro en w1 ⟨rfl,hs1⟩;clear hs;go_wp2_with fail;refine (zdV b x c _ w0 _ _ z6 ?_ t (tcg c t).per).mono ?_
    ·show SOk (Kn.tell _ _ _ _ _ _).S;rw [z3V];exact hS.out
    rintro en w5 ⟨rfl,hs5⟩;go_wp2_with fail
    all_goals
     go_end0
     refine ⟨rfl,?_⟩;have e7:((K.wLate t 255).tell c 7 t 0 255).S=K.S:=z3V _ _ _ _
     simpa only [e7] using hs5
   ·have hx:=hid (h2 p);rw [hm] at hx;have dp:decide (0<(tcg c t).per)=false:=decide_eq_false p;rw [← hx.out];clear h hT hx hl hlev p hlate e h1 h2 hm
    go_enter Tryz.func71,Tryz.ntmps71
    go_wp2_with fail;refine (hTell.out 7 (.inr rfl) _ rfl _ ?_ _ ?_ _ _ z6).mono ?_
    ·exact ⟨by omega,by omega⟩
    ·exact Hl.out
    rintro en w1 ⟨rfl,hs1⟩;clear hs;go_wp2_with fail
    all_goals
     go_end0
     exact ⟨rfl,hs1⟩
theorem zdP (c:Cf) (K:Kn) (t:Nat) (status on:Int) (i:Ins) (e:¬ i.d=2) :
  (((K.wSt t status).wOn t on).wR (z5F K.R t)).tell c 9 t on 0=K.hold c t status on i:=by
 unfold Kn.hold;dsimp only;rw [if_neg e];unfold Kn.wOn Kn.wSt;rw [z2V,z8]
 rfl
theorem z3F (b:Nat) (x:Fx) (c:Cf) (K:Kn) (t:Nat) (status on:Int) (i:Ins) (hi:zI i) (e:¬ i.d=2) (cf:z7T c) (ht:t<c.ts.length) (ho:zG on) (w0 w:World) (F:HP) (hs:Sat w0 w (knP b x c K*F)) (hl:K.told.length≤100000) :
  Calls Tryz.prog 143 #[.pointer (some ⟨b,0,none⟩),.int .i64 t,.int .i64 status,.int .i64 on,z22 i] w (zp w0 (.int .i64 0) (knP b x c (K.hold c t status on i)*F)):=by
 have hnt:=cf.nt;rw [← zdP c K t status on i e];have hT:=hid (fun (K':Kn) (hl:K'.told.length≤100000) (kI:Int) (hk:kI=9) (w:World) (G:HP) (hs:Sat w0 w (knP b x c K'*G))=>zN b x c K' 9 kI hk t on 0 w0 w G hs cf (by decide) ⟨by omega,by omega⟩ ho ⟨by decide,by decide⟩ hl);haveI:Lt t c.ts.length:=⟨ht⟩;have a1:=x.ta.ad_pos (show 0<c.ts.length by omega);have i1:(t:Int)<(c.ts.length:Int):=by omega
 have d1:decide (t<c.ts.length)=true:=decide_eq_true ht;obtain ⟨op,a,b',c',d,k⟩:=i;have hd:¬ d=2:=e;have e2:(d==2)=false:=by simp [hd]
 obtain ⟨n,hn⟩:=Int.eq_ofNat_of_zero_le (show 0≤c' from hi.c.1);have hn8:n<8:=by have:c'<8:=hi.c.2;omega
 haveI:Lt n 8:=⟨hn8⟩;have d2:decide (n<8)=true:=decide_eq_true hn8;have i2:(n:Int)<8:=by omega
 subst hn;have Hl:=hid hl;clear hi e hd ho cf hl
 go_enter Tryz.func143,Tryz.ntmps143
 go_wp2_with fail;go_quiet (fail);go_wp2_with fail;refine (zd2 b x c ((K.wSt t status).wOn t on) w0 _ _ own t (by omega)).mono ?_;rintro en w2 ⟨rfl,hs2⟩;simp only [Kn.wOn_R,Kn.wSt_R] at hs2;clear hs;go_wp2_with fail;refine (hT.out (((K.wSt t status).wOn t on).wR (z5F K.R t)) ?_ _ rfl _ _ own).mono ?_
 ·exact Hl.out
 rintro en w3 ⟨rfl,hs3⟩;go_wp2_with fail;go_ret;exact ⟨rfl,z3⟩
theorem zbF (b:Nat) (x:Fx) (c:Cf) (K:Kn) (t:Nat) (status on:Int) (i:Ins) (hi:zI i) (e:i.d=2) (hz:(K.T t).rg.get i.c.toNat=0) (cf:z7T c) (ht:t<c.ts.length) (w0 w:World) (F:HP) (hs:Sat w0 w (knP b x c K*F)) :
  Calls Tryz.prog 143 #[.pointer (some ⟨b,0,none⟩),.int .i64 t,.int .i64 status,.int .i64 on,z22 i] w (zp w0 (.int .i64 9) (knP b x c K*F)):=by
 haveI:Lt t c.ts.length:=⟨ht⟩;have hnt:=cf.nt;have a1:=x.ta.ad_pos (show 0<c.ts.length by omega);have i1:(t:Int)<(c.ts.length:Int):=by omega
 have d1:decide (t<c.ts.length)=true:=decide_eq_true ht;obtain ⟨op,a,b',c',d,k⟩:=i;obtain rfl:d=2:=e;obtain ⟨n,hn⟩:=Int.eq_ofNat_of_zero_le (show 0≤c' from hi.c.1);have hn8:n<8:=by have:c'<8:=hi.c.2;omega
 haveI:Lt n 8:=⟨hn8⟩;have d2:decide (n<8)=true:=decide_eq_true hn8;have i2:(n:Int)<8:=by omega
 subst hn;have q:(K.T t).rg.get n=0:=hz;clear hi hz cf
 go_enter Tryz.func143,Tryz.ntmps143
 go_wp2_with fail;go_quiet (fail);go_wp2_with fail;go_ret;exact ⟨rfl,z3⟩
theorem zbE (b:Nat) (x:Fx) (c:Cf) (K:Kn) (t:Nat) (status on:Int) (i:Ins) (hi:zI i) (e:i.d=2) (hz:¬ (K.T t).rg.get i.c.toNat=0) (hS:SOk K.S) (hr:K.noRoom c=true) (cf:z7T c) (ht:t<c.ts.length) (w0 w:World) (F:HP) (hs:Sat w0 w (knP b x c K*F)) :
  Calls Tryz.prog 143 #[.pointer (some ⟨b,0,none⟩),.int .i64 t,.int .i64 status,.int .i64 on,z22 i] w (zp w0 (.int .i64 7) (knP b x c K*F)):=by
 haveI:Lt t c.ts.length:=⟨ht⟩;have hnt:=cf.nt;have a1:=x.ta.ad_pos (show 0<c.ts.length by omega);have i1:(t:Int)<(c.ts.length:Int):=by omega
 have d1:decide (t<c.ts.length)=true:=decide_eq_true ht;obtain ⟨op,a,b',c',d,k⟩:=i;obtain rfl:d=2:=e;obtain ⟨n,hn⟩:=Int.eq_ofNat_of_zero_le (show 0≤c' from hi.c.1);have hn8:n<8:=by have:c'<8:=hi.c.2;omega
 haveI:Lt n 8:=⟨hn8⟩;have d2:decide (n<8)=true:=decide_eq_true hn8;have i2:(n:Int)<8:=by omega
 subst hn;have q:((K.T t).rg.get n==0)=false:=by have:¬ (K.T t).rg.get n=0:=hz;simp [this]
 have hF:=hid (fun w G hs=>z8l b x c K w0 w G hs hS true hr);clear hi hz cf hr hS
 go_enter Tryz.func143,Tryz.ntmps143
 go_wp2_with fail;go_quiet (fail);go_wp2_with fail;refine (hF.out _ _ own).mono ?_;rintro en w1 ⟨rfl,hs1⟩;go_wp2_with fail;go_ret;exact ⟨rfl,z3⟩
theorem zdO (c:Cf) (K:Kn) (t:Nat) (status on:Int) (i:Ins) (e:i.d=2) :
  ((((K.wS (z5B K.S (64+t) ((K.T t).rg.get i.c.toNat))).wSt t status).wOn t on).wR (z5F K.R t)).tell c 9 t on 0=K.hold c t status on i:=by
 unfold Kn.hold;dsimp only;rw [if_pos e];unfold Kn.wOn Kn.wSt;rw [z2V,z8]
 rfl
theorem zdS (b:Nat) (x:Fx) (c:Cf) (K:Kn) (t:Nat) (status on:Int) (i:Ins) (hi:zI i) (e:i.d=2) (hz:¬ (K.T t).rg.get i.c.toNat=0) (hv:zG ((K.T t).rg.get i.c.toNat)) (hS:SOk K.S) (hr:K.noRoom c=false) (cf:z7T c) (ht:t<c.ts.length) (ho:zG on) (w0 w:World) (F:HP) (hs:Sat w0 w (knP b x c K*F)) (hl:K.told.length≤100000) :
  Calls Tryz.prog 143 #[.pointer (some ⟨b,0,none⟩),.int .i64 t,.int .i64 status,.int .i64 on,z22 i] w (zp w0 (.int .i64 0) (knP b x c (K.hold c t status on i)*F)):=by
 rw [← zdO c K t status on i e];haveI:Lt t c.ts.length:=⟨ht⟩;have hnt:=cf.nt;have a1:=x.ta.ad_pos (show 0<c.ts.length by omega);have i1:(t:Int)<(c.ts.length:Int):=by omega
 have d1:decide (t<c.ts.length)=true:=decide_eq_true ht;obtain ⟨op,a,b',c',d,k⟩:=i;obtain rfl:d=2:=e;obtain ⟨n,hn⟩:=Int.eq_ofNat_of_zero_le (show 0≤c' from hi.c.1);have hn8:n<8:=by have:c'<8:=hi.c.2;omega
 haveI:Lt n 8:=⟨hn8⟩;have d2:decide (n<8)=true:=decide_eq_true hn8;have i2:(n:Int)<8:=by omega
 subst hn;have q:((K.T t).rg.get n==0)=false:=by have:¬ (K.T t).rg.get n=0:=hz;simp [this]
 have qn:(n:Int).toNat=n:=rfl;simp only [qn] at hv ⊢;have q5:IntKind.i64.wrap ((K.T t).rg.get n)=(K.T t).rg.get n:=by rw [IntKind.wrap_i64];have:=hv.1;have:=hv.2;omega
 have hF:=hid (fun w G hs=>z8l b x c K w0 w G hs hS false hr);have hP:=hid (fun w G hs=>zdV b x c K w0 w G hs hS (64+t) ((K.T t).rg.get n));have hT:=hid (fun (K':Kn) (hl:K'.told.length≤100000) (kI:Int) (hk:kI=9) (w:World) (G:HP) (hs:Sat w0 w (knP b x c K'*G))=>zN b x c K' 9 kI hk t on 0 w0 w G hs cf (by decide) ⟨by omega,by omega⟩ ho ⟨by decide,by decide⟩ hl);have Hl:=hid hl;clear hi hz cf hr hS hv ho hl
 go_enter Tryz.func143,Tryz.ntmps143
 go_wp2_with fail;go_quiet (fail);go_wp2_with fail;refine (hF.out _ _ own).mono ?_;rintro en w1 ⟨rfl,hs1⟩;go_wp2_with fail;refine (hP.out _ _ z6).mono ?_;rintro en w2 ⟨rfl,hs2⟩;go_wp2_with fail;refine (zd2 b x c (((K.wS (z5B K.S (64+t) ((K.T t).rg.get n))).wSt t status).wOn t on) w0 _ _ own t (by omega)).mono ?_;rintro en w3 ⟨rfl,hs3⟩;simp only [Kn.wOn_R,Kn.wSt_R,Kn.wS_R] at hs3;go_wp2_with fail;refine (hT.out _ ?_ _ rfl _ _ z6).mono ?_
 ·exact Hl.out
 rintro en w4 ⟨rfl,hs4⟩;go_wp2_with fail;go_ret;exact ⟨rfl,z3⟩
theorem zav (b:Nat) (x:Fx) (c:Cf) (K:Kn) (t cb co:Nat) (hcx:z4b b x c cb co t) (i:Ins) (hi:zI i) (hz:K.reg t i.c=0) (w0 w:World) (F:HP) (hs:Sat w0 w (knP b x c K*F)) :
  Calls Tryz.prog 127 #[.pointer (some ⟨b,0,none⟩),.int .i64 t,.pointer (some ⟨cb,co,none⟩),z22 i] w (zp w0 (.tuple #[]) (knP b x c (K.put t i.a 0)*F)):=by
 obtain ⟨op,a,b',c',d,k⟩:=i;obtain ⟨n,hn⟩:=Int.eq_ofNat_of_zero_le (show 0≤c' from hi.c.1);have hn8:n<8:=by have:c'<8:=hi.c.2;omega
 haveI:Lt n 8:=⟨hn8⟩;have d2:decide (n<8)=true:=decide_eq_true hn8;have i2:(n:Int)<8:=by omega
 obtain ⟨a,rfl⟩:=Int.eq_ofNat_of_zero_le (show 0≤a from hi.a.1);have ha8:a<8:=by have:(a:Int)<8:=hi.a.2;omega
 haveI:Lt a 8:=⟨ha8⟩;have d1:decide (a<8)=true:=decide_eq_true ha8;have i1:(a:Int)<8:=by omega
 subst hn;have q:K.reg t n=0:=hz;clear hi hz
 go_enter Tryz.func127,Tryz.ntmps127
 go_wp2_with fail;go_quiet (fail);go_wp2_with fail;refine z9 (w0:=w0) ?_;intro wx hsx;go_still_tail 6,(by kernel_rfl);change wpList _ _ _ _ _ wx.drew;go_wp2_with fail
 go_end0
 exact ⟨rfl,z3⟩
theorem zau (b:Nat) (x:Fx) (c:Cf) (K:Kn) (t cb co:Nat) (hcx:z4b b x c cb co t) (i:Ins) (hi:zI i) (hz:¬ K.reg t i.c=0) (hS:SOk K.S) (hr:K.noRoom c=true) (cf:z7T c) (ht:t<64) (w0 w:World) (F:HP) (hs:Sat w0 w (knP b x c K*F)) (hl:K.told.length≤100000) :
  Calls Tryz.prog 127 #[.pointer (some ⟨b,0,none⟩),.int .i64 t,.pointer (some ⟨cb,co,none⟩),z22 i] w (zp w0 (.tuple #[]) (knP b x c (K.refuse c t i 7)*F)):=by
 have hF:=hid (fun w G hs=>z8l b x c K w0 w G hs hS true hr);have hRf:=hid (fun (w:World) (G:HP) (hs:Sat w0 w (knP b x c K*G))=>zV b x c K t cb co hcx i hi 7 (by decide) w0 w G hs cf (by omega) hl);obtain ⟨op,a,b',c',d,k⟩:=i;obtain ⟨n,hn⟩:=Int.eq_ofNat_of_zero_le (show 0≤c' from hi.c.1);have hn8:n<8:=by have:c'<8:=hi.c.2;omega
 haveI:Lt n 8:=⟨hn8⟩;have d2:decide (n<8)=true:=decide_eq_true hn8;have i2:(n:Int)<8:=by omega
 obtain ⟨a,rfl⟩:=Int.eq_ofNat_of_zero_le (show 0≤a from hi.a.1);have ha8:a<8:=by have:(a:Int)<8:=hi.a.2;omega
 haveI:Lt a 8:=⟨ha8⟩;have d1:decide (a<8)=true:=decide_eq_true ha8;have i1:(a:Int)<8:=by omega
 subst hn;have q:(K.reg t n==0)=false:=by have:¬ K.reg t n=0:=hz;simp [this]
 clear hi hz hS hr cf hl
 go_enter Tryz.func127,Tryz.ntmps127
 go_wp2_with fail;go_quiet (fail);go_wp2_with fail;refine (hF.out _ _ own).mono ?_;rintro en w1 ⟨rfl,hs1⟩;go_wp2_with fail;refine (hRf.out _ _ z6).mono ?_;rintro en w2 ⟨rfl,hs2⟩;go_wp2_with fail
 go_end0
 exact ⟨rfl,z3⟩
theorem zbM (b:Nat) (x:Fx) (c:Cf) (K:Kn) (t cb co:Nat) (hcx:z4b b x c cb co t) (i:Ins) (hi:zI i) (hd:¬ i.d=2) (hz:¬ K.reg t i.c=0) (hv:zG (K.reg t i.c)) (hS:SOk K.S) (hr:K.noRoom c=false) (cf:z7T c) (ht:t<c.ts.length) (w0 w:World) (F:HP) (hs:Sat w0 w (knP b x c K*F)) (hl:K.told.length≤100000) :
  Calls Tryz.prog 127 #[.pointer (some ⟨b,0,none⟩),.int .i64 t,.pointer (some ⟨cb,co,none⟩),z22 i] w (zp w0 (.tuple #[]) (knP b x c ((K.wS (z5B K.S (64+t) (K.reg t i.c))).hold c t 2 0 i)*F)):=by
 have hnt:=cf.nt;have hF:=hid (fun w G hs=>z8l b x c K w0 w G hs hS false hr);have hH:=hid (fun (w:World) (G:HP) (hs:Sat w0 w (knP b x c (K.wS (z5B K.S (64+t) (K.reg t i.c)))*G))=>z3F b x c _ t 2 0 i hi hd cf ht ⟨by decide,by decide⟩ w0 w G hs hl);have hP:=hid (fun w G hs=>zdV b x c K w0 w G hs hS (64+t) (K.reg t i.c));obtain ⟨op,a,b',c',d,k⟩:=i;obtain ⟨n,hn⟩:=Int.eq_ofNat_of_zero_le (show 0≤c' from hi.c.1);have hn8:n<8:=by have:c'<8:=hi.c.2;omega
 haveI:Lt n 8:=⟨hn8⟩;have d2:decide (n<8)=true:=decide_eq_true hn8;have i2:(n:Int)<8:=by omega
 obtain ⟨a,rfl⟩:=Int.eq_ofNat_of_zero_le (show 0≤a from hi.a.1);have ha8:a<8:=by have:(a:Int)<8:=hi.a.2;omega
 haveI:Lt a 8:=⟨ha8⟩;have d1:decide (a<8)=true:=decide_eq_true ha8;have i1:(a:Int)<8:=by omega
 subst hn;have q:(K.reg t n==0)=false:=by have:¬ K.reg t n=0:=hz;simp [this]
 have q5:IntKind.i64.wrap (K.reg t n)=K.reg t n:=by
  have h1:K.reg t n<4294967296:=hv.2;have h2:0≤K.reg t n:=hv.1;rw [IntKind.wrap_i64];omega
 have q6:IntKind.i64.wrap (64+(t:Int))=64+(t:Int):=by rw [IntKind.wrap_i64];omega
 clear hi hz hS hr cf hl hv hd
 go_enter Tryz.func127,Tryz.ntmps127
 go_wp2_with fail;go_quiet (fail);go_wp2_with fail;refine (hF.out _ _ own).mono ?_;rintro en w1 ⟨rfl,hs1⟩;go_wp2_with fail;refine (hP.out _ _ z6).mono ?_;rintro en w2 ⟨rfl,hs2⟩;go_wp2_with fail;refine (hH.out _ _ z6).mono ?_;rintro en w3 ⟨rfl,hs3⟩;go_wp2_with fail
 go_end0
 exact ⟨rfl,z3⟩
theorem zg2 (c:Cf) (K:Kn) (t:Nat) (e:0<(K.T t).late) :
  (((K.tell c 8 t 0 (K.T t).job).wLate t ((K.T t).late-1)).wJob t (((K.T t).job+1)%4294967296)).tell c 6 t 0 (((K.T t).job+1)%4294967296)=K.next c t:=by
 unfold Kn.next;dsimp only;rw [if_pos e];unfold Kn.wJob Kn.wLate;rw [z2V,z8,z01]
theorem zg1 (c:Cf) (K:Kn) (t:Nat) (e:¬ 0<(K.T t).late) :
  ((K.tell c 8 t 0 (K.T t).job).wSt t 0).wR (z5F K.R t)=K.next c t:=by
 unfold Kn.next;dsimp only;rw [if_neg e];unfold Kn.wSt;rw [z01,zgF]
 rfl
theorem zmc (b:Nat) (x:Fx) (c:Cf) (K:Kn) (t:Nat) (h:Inv c K) (ht:t<c.ts.length) (w0 w:World) (F:HP) (hs:Sat w0 w (knP b x c K*F)) (hl:K.told.length≤99990) :
  Calls Tryz.prog 129 #[.pointer (some ⟨b,0,none⟩),.int .i64 t] w (zp w0 (.tuple #[]) (knP b x c (K.next c t)*F)):=by
 have hnt:=h.cf.nt;have cf:=h.cf;haveI:Lt t c.ts.length:=⟨ht⟩;have a1:=x.ta.ad_pos (show 0<c.ts.length by omega);have i1:(t:Int)<(c.ts.length:Int):=by omega
 have d1:decide (t<c.ts.length)=true:=decide_eq_true ht;have hT:=h.T t ht;have hjob:=hT.job;have hlate:=hT.late;have hA:=hid (fun (kI:Int) (hk:kI=8) (w:World) (G:HP) (hs:Sat w0 w (knP b x c K*G))=>zN b x c K 8 kI hk t 0 (K.T t).job w0 w G hs cf (by decide) ⟨by omega,by omega⟩ ⟨by decide,by decide⟩ hjob (by omega));have l1:=zW (c:=c) K 8 t 0 (K.T t).job;have Hl:=hid (show (K.tell c 8 t 0 (K.T t).job).told.length≤100000 by omega)
 by_cases e:0<(K.T t).late
 ·have hx:=hid (zg2 c K t e);obtain ⟨j,hj⟩:∃ j,j=((K.T t).job+1)%4294967296:=⟨_,rfl⟩;have hw1:IntKind.u32.wrap ((K.T t).job+1)=j:=by rw [IntKind.wrap_u32,hj]
  have hw2:IntKind.i64.wrap ((K.T t).late-1)=(K.T t).late-1:=by rw [IntKind.wrap_i64];omega
  have hw3:((K.T t).job+1)%4294967296=j:=hj.symm;have hrj:=hid (show zG j from ⟨by omega,by omega⟩);have hB:=hid (fun (K':Kn) (hl:K'.told.length≤100000) (kI:Int) (hk:kI=6) (w:World) (G:HP) (hs:Sat w0 w (knP b x c K'*G))=>zN b x c K' 6 kI hk t 0 j w0 w G hs cf (by decide) ⟨by omega,by omega⟩ ⟨by decide,by decide⟩ hrj.out hl);rw [← hj] at hx;have de:decide (0<(K.T t).late)=true:=decide_eq_true e;rw [← hx.out];clear h hT hx hl hj hjob hlate cf l1
  go_enter Tryz.func129,Tryz.ntmps129
  go_wp2_with fail;refine (hA.out _ rfl _ _ z6).mono ?_;rintro en w1 ⟨rfl,hs1⟩;clear hs;go_wp2_with fail;refine (hB.out _ ?_ _ rfl _ _ z6).mono ?_
  ·exact Hl.out
  rintro en w2 ⟨rfl,hs2⟩;go_wp2_with fail
  all_goals
   go_end0
   exact ⟨rfl,z3⟩
 ·have hx:=hid (zg1 c K t e);have de:decide (0<(K.T t).late)=false:=decide_eq_false e;rw [← hx.out];clear h hT hx hl hjob hlate cf l1
  go_enter Tryz.func129,Tryz.ntmps129
  go_wp2_with fail;refine (hA.out _ rfl _ _ z6).mono ?_;rintro en w1 ⟨rfl,hs1⟩;clear hs;go_wp2_with fail;refine (zd2 b x c ((K.tell c 8 t 0 (K.T t).job).wSt t 0) w0 _ _ z6 t (by omega)).mono ?_;rintro en w2 ⟨rfl,hs2⟩;have e7:((K.tell c 8 t 0 (K.T t).job).wSt t 0).R=K.R:=zgF _ _ _ _;rw [e7] at hs2;go_wp2_with fail
  all_goals
   go_end0
   exact ⟨rfl,hs2⟩
theorem z7a (b:Nat) (x:Fx) (c:Cf) (K:Kn) (t:Nat) (status on:Int) (i:Ins) (hi:zI i) (h0:K.holdE c t i=0) (h:Inv c K) (ht:t<c.ts.length) (ho:zG on) (w0 w:World) (F:HP) (hs:Sat w0 w (knP b x c K*F)) (hl:K.told.length≤100000) :
  Calls Tryz.prog 143 #[.pointer (some ⟨b,0,none⟩),.int .i64 t,.int .i64 status,.int .i64 on,z22 i] w (zp w0 (.int .i64 0) (knP b x c (K.hold c t status on i)*F)):=by
 by_cases e:i.d=2
 ·unfold Kn.holdE at h0;rw [if_pos e] at h0
  by_cases hz:(K.T t).rg.get i.c.toNat=0
  ·rw [if_pos hz] at h0;omega
  ·rw [if_neg hz] at h0;have hr:K.noRoom c=false:=by cases g:K.noRoom c<;>simp_all
   exact zdS b x c K t status on i hi e hz ((h.T t ht).rg _) h.S hr h.cf ht ho w0 w F hs hl
 ·exact z3F b x c K t status on i hi e h.cf ht ho w0 w F hs hl
theorem z79 (b:Nat) (x:Fx) (c:Cf) (K:Kn) (t:Nat) (status on:Int) (i:Ins) (hi:zI i) (z:Int) (hz:K.holdE c t i=z) (h0:¬ K.holdE c t i=0) (h:Inv c K) (ht:t<c.ts.length) (w0 w:World) (F:HP) (hs:Sat w0 w (knP b x c K*F)) :
  Calls Tryz.prog 143 #[.pointer (some ⟨b,0,none⟩),.int .i64 t,.int .i64 status,.int .i64 on,z22 i] w (zp w0 (.int .i64 z) (knP b x c K*F)):=by
 unfold Kn.holdE at hz h0
 by_cases e:i.d=2
 ·rw [if_pos e] at hz h0
  by_cases g:(K.T t).rg.get i.c.toNat=0
  ·rw [if_pos g] at hz;subst hz;exact zbF b x c K t status on i hi e g h.cf ht w0 w F hs
  ·rw [if_neg g] at hz h0;have hr:K.noRoom c=true:=by cases g:K.noRoom c<;>simp_all
   rw [if_pos hr] at hz;subst hz;exact zbE b x c K t status on i hi e g h.S hr h.cf ht w0 w F hs
 ·rw [if_neg e] at h0;exact absurd rfl h0
section
variable {c:Cf} {K:Kn} {t:Nat} {i:Ins}
theorem zdy (h:(c.sems.length:Int)≤i.k):K.await c t i=K.refuse c t i 15:=by
 unfold Kn.await;exact if_pos h
theorem zdz (h:¬ (c.sems.length:Int)≤i.k) (e:z3t (K.sm i.k.toNat).1=0):K.await c t i=((K.wSm (upd K.sm i.k.toNat (z2W (K.sm i.k.toNat).1,(K.sm i.k.toNat).2))).put t i.a 0).tell c 15 t i.k (z2W (K.sm i.k.toNat).1):=by
 unfold Kn.await;rw [if_neg h];dsimp only;rw [if_pos e];rfl
theorem zeE (h:¬ (c.sems.length:Int)≤i.k) (e:¬ z3t (K.sm i.k.toNat).1=0) (hd:i.d=1):K.await c t i=K.refuse c t i (z3t (K.sm i.k.toNat).1):=by
 unfold Kn.await;rw [if_neg h];dsimp only;rw [if_neg e,if_pos hd]
theorem zdx (h:¬ (c.sems.length:Int)≤i.k) (e:¬ z3t (K.sm i.k.toNat).1=0) (hd:¬ i.d=1) (h0:K.holdE c t i=0):K.await c t i=(K.hold c t 4 (64+i.k) i).wSm (upd (K.hold c t 4 (64+i.k) i).sm i.k.toNat (((K.hold c t 4 (64+i.k) i).sm i.k.toNat).1,z4f ((K.hold c t 4 (64+i.k) i).sm i.k.toNat).1 ((K.hold c t 4 (64+i.k) i).sm i.k.toNat).2 t)):=by
 unfold Kn.await;rw [if_neg h];dsimp only;rw [if_neg e,if_neg hd,if_pos h0];rfl
theorem zh3 (h:¬ (c.sems.length:Int)≤i.k) (e:¬ z3t (K.sm i.k.toNat).1=0) (hd:¬ i.d=1) (h0:¬ K.holdE c t i=0):K.await c t i=K.refuse c t i (K.holdE c t i):=by
 unfold Kn.await;rw [if_neg h];dsimp only;rw [if_neg e,if_neg hd,if_neg h0]
end
theorem zgE {u:Int} (e:¬ z3t u=0):z3t u=8∧z2W u=u:=by
 unfold z3t at e ⊢;unfold z2W
 split at e
 ·rename_i g;rw [if_pos g,if_pos g];exact ⟨rfl,rfl⟩
 ·exact absurd rfl e
theorem zl8 {K:Kn} {s:Nat} {v:Int×List Int} (h:v=K.sm s):K.wSm (upd K.sm s v)=K:=by rw [h,z10];rfl
theorem zkb (b:Nat) (x:Fx) (c:Cf) (K:Kn) (t cb co:Nat) (hcx:z4b b x c cb co t) (i:Ins) (hi:zI i) (h:Inv c K) (ht:t<c.ts.length) (w0 w:World) (F:HP) (hs:Sat w0 w (knP b x c K*F)) (hl:K.told.length≤99990) :
  Calls Tryz.prog 126 #[.pointer (some ⟨b,0,none⟩),.int .i64 t,.pointer (some ⟨cb,co,none⟩),z22 i] w (zp w0 (.tuple #[]) (knP b x c (K.await c t i)*F)):=by
 have hnt:=h.cf.nt;have hns:=h.cf.ns;have cf:=h.cf;have hRf:=hid (fun (e:Int) (he:0≤e∧e≤16) (w:World) (G:HP) (hs:Sat w0 w (knP b x c K*G))=>zV b x c K t cb co hcx i hi e he w0 w G hs cf (by omega) (by omega));obtain ⟨k,hk⟩:=Int.eq_ofNat_of_zero_le (show 0≤i.k from hi.k.1);have hk32:(k:Int)<4294967296:=by rw [← hk];exact hi.k.2
 have u1:IntKind.u64.wrap (k:Int)=k:=by rw [IntKind.wrap_u64];omega
 have u2:IntKind.u64.wrap (c.sems.length:Int)=c.sems.length:=by rw [IntKind.wrap_u64];omega
 have u5:IntKind.i64.wrap (k:Int)=k:=by rw [IntKind.wrap_i64];omega
 have u6:IntKind.i64.wrap (64+(k:Int))=64+(k:Int):=by rw [IntKind.wrap_i64];omega
 by_cases h1:(c.sems.length:Int)≤i.k
 ·rw [zdy h1];have d0:decide (c.sems.length≤k)=true:=by rw [hk] at h1;simp;omega
  have hR:=hid (hRf.out 15 (by decide));clear hRf hi h cf h1 hl;obtain ⟨op,a,b',c',d,k'⟩:=i;have hk:k'=k:=hk;subst hk
  go_enter Tryz.func126,Tryz.ntmps126
  go_wp2_with fail;go_quiet (fail);go_wp2_with fail;refine (hR.out _ _ own).mono ?_;rintro en w1 ⟨rfl,hs1⟩;go_wp2_with fail
  go_end0
  exact ⟨rfl,z3⟩
 ·have hkl:k<c.sems.length:=by rw [hk] at h1;omega
  have d0:decide (c.sems.length≤k)=false:=by simp;omega
  haveI:Lt k c.sems.length:=⟨hkl⟩;have a1:=x.sa.ad_pos (show 0<c.sems.length by omega);have i1:(k:Int)<(c.sems.length:Int):=by omega
  have d1:decide (k<c.sems.length)=true:=decide_eq_true hkl;have hok:=h.sm k hkl;have hki:i.k.toNat=k:=by omega
  have hTk:=hid (fun w G hs=>zkn b x c K w0 w G hs k hkl hok)
  by_cases e:z3t (K.sm k).1=0
  ·have hx:=hid (zdz (K:=K) (c:=c) (t:=t) h1 (by rw [hki];exact e));have hu:=z5H hok;have hu0:=hu.lo;have hu1:=hu.hi;have u3:IntKind.u32.wrap (z2W (K.sm k).1)=z2W (K.sm k).1:=by rw [IntKind.wrap_u32];omega
   obtain ⟨a,ha⟩:=Int.eq_ofNat_of_zero_le (show 0≤i.a from hi.a.1);have ha8:a<8:=by have:=hi.a.2;omega
   haveI:Lt a 8:=⟨ha8⟩;have d2:decide (a<8)=true:=decide_eq_true ha8;have i2:(a:Int)<8:=by omega
   have hUn:=hid (fun (w:World) (G:HP) (hs:Sat w0 w (knP b x c ((K.wSm (upd K.sm k (z2W (K.sm k).1,(K.sm k).2))).put t a 0)*G))=>z99 b x c _ w0 w G hs k hkl);rw [zmt,Kn.wSm_sm,zK] at hUn;have hT:=hid (fun (v:Int) (hv:v=z2W (K.sm k).1) (kI:Int) (hk:kI=15) (w:World) (G:HP) (hs:Sat w0 w (knP b x c ((K.wSm (upd K.sm k (z2W (K.sm k).1,(K.sm k).2))).put t a 0)*G))=>zN b x c ((K.wSm (upd K.sm k (z2W (K.sm k).1,(K.sm k).2))).put t a 0) 15 kI hk t k v w0 w G hs cf (by decide) ⟨by omega,by omega⟩ ⟨by omega,by omega⟩ (by rw [hv];exact ⟨by omega,by omega⟩) (by rw [zQ];show K.told.length≤100000;omega));rw [hki,hk,ha] at hx;rw [hx.out];clear hRf hi h cf h1 hl hx hok hu;obtain ⟨op,a',b',c',d,k'⟩:=i;have hk:k'=k:=hk;have ha:a'=a:=ha;subst hk ha;clear hki
   go_enter Tryz.func126,Tryz.ntmps126
   go_wp2_with fail;go_quiet (fail);go_wp2_with fail;go_quiet (fail);go_wp2_with fail;refine (hTk.out _ _ own).mono ?_;rintro en w1 ⟨rfl,hs1⟩;go_wp2_with fail;refine z9 (w0:=w0) ?_;intro wx hsx;go_still_tail 6,(by kernel_rfl);change wpList _ _ _ _ _ wx.drew;go_wp2_with fail;refine z9 (w0:=w0) ?_;intro wx hsx;clear hs hs1;refine zj (fun w'=>w'.cell? ⟨w.heap.size,5,none⟩=some (.int .u32 k)) [(0,true),(1,true),(2,true),(3,true),(4,true),(5,true),(6,false),(7,true),(8,false)] (by kernel_rfl) (by kernel_rfl) (fun _ _ _ _ h=>h) z4 ?_
   iterate 6 (first | refine zsR ?_ | refine zsQ ?_)
   refine z29 rfl (by rfl) (fun K hK=>?_);go_wp2_with fail;refine (hUn.out _ _ z6).mono ?_;rintro en w2 ⟨rfl,hs2⟩;go_wp2_with fail;refine ⟨z4,?_⟩
   iterate 1 (first | refine zsR ?_ | refine zsQ ?_)
   refine z29 rfl (by rfl) (fun K hK=>?_);go_wp2_with fail;refine (hT.out _ rfl _ rfl _ _ z6).mono ?_;rintro en w3 ⟨rfl,hs3⟩;go_wp2_with fail;refine ⟨z4,?_⟩;refine zB ?_;go_wp2_with fail
   go_end0
   exact ⟨rfl,z3⟩
  ·obtain ⟨e8,eU⟩:=zgE e;have esm:=zl8 (K:=K) (s:=k) (v:=(z2W (K.sm k).1,(K.sm k).2)) (by rw [eU]);rw [e8,esm] at hTk;clear eU esm
   by_cases hd:i.d=1
   ·have hx:=zeE (K:=K) (c:=c) (t:=t) h1 (by rw [hki];exact e) hd;rw [hki,e8] at hx;rw [hx];have hR:=hid (hRf.out 8 (by decide));clear hRf hi h cf h1 hl hx hok e e8 hki;obtain ⟨op,a',b',c',d,k'⟩:=i;have hk:k'=k:=hk;have hd:d=1:=hd;subst hk hd
    go_enter Tryz.func126,Tryz.ntmps126
    go_wp2_with fail;go_quiet (fail);go_wp2_with fail;go_quiet (fail);go_wp2_with fail;refine (hTk.out _ _ own).mono ?_;rintro en w1 ⟨rfl,hs1⟩;go_wp2_with fail;refine (hR.out _ _ z6).mono ?_;rintro en w2 ⟨rfl,hs2⟩;go_wp2_with fail
    go_end0
    exact ⟨rfl,z3⟩
   ·have hd1:(i.d != 1)=true:=by simp [hd]
    by_cases h0:K.holdE c t i=0
    ·have hx:=hid (zdx (K:=K) (c:=c) (t:=t) h1 (by rw [hki];exact e) hd h0);have hH:=hid (fun (w:World) (G:HP) (hs:Sat w0 w (knP b x c K*G))=>z7a b x c K t 4 (64+k) i hi h0 h ht ⟨by omega,by omega⟩ w0 w G hs (by omega));have hA:=hid (fun (w:World) (G:HP) (hs:Sat w0 w (knP b x c (K.hold c t 4 (64+k) i)*G))=>zhB b x c _ w0 w G hs k hkl (by rw [zf5];exact hok) t);rw [hki,hk] at hx;rw [hx.out];clear hRf hi h cf h1 hl hx hok e e8 hki hd h0;obtain ⟨op,a',b',c',d,k'⟩:=i;have hk:k'=k:=hk;have hd1:(d != 1)=true:=hd1;subst hk
     go_enter Tryz.func126,Tryz.ntmps126
     go_wp2_with fail;go_quiet (fail);go_wp2_with fail;go_quiet (fail);go_wp2_with fail;refine (hTk.out _ _ own).mono ?_;rintro en w1 ⟨rfl,hs1⟩;go_wp2_with fail;refine (hH.out _ _ z6).mono ?_;rintro en w2 ⟨rfl,hs2⟩;go_wp2_with fail;refine (hA.out _ _ z6).mono ?_;rintro en w3 ⟨rfl,hs3⟩;go_wp2_with fail
     go_end0
     exact ⟨rfl,z3⟩
    ·have hx:=hid (zh3 (K:=K) (c:=c) (t:=t) h1 (by rw [hki];exact e) hd h0);obtain ⟨z,hz⟩:∃ z,z=K.holdE c t i:=⟨_,rfl⟩;have hH:=hid (fun w G hs=>z79 b x c K t 4 (64+k) i hi z hz.symm h0 h ht w0 w G hs);have hsm:=z1A (c:=c) (K:=K) t i;have hR:=hid (hRf.out z (by rw [hz];exact hsm));have z1:(z==0)=false:=by rw [hz];simp [h0]
     rw [← hz] at hx;rw [hx.out];clear hRf hi h cf h1 hl hx hok e e8 hki hd h0 hz hsm;obtain ⟨op,a',b',c',d,k'⟩:=i;have hk:k'=k:=hk;have hd1:(d != 1)=true:=hd1;subst hk
     go_enter Tryz.func126,Tryz.ntmps126
     go_wp2_with fail;go_quiet (fail);go_wp2_with fail;go_quiet (fail);go_wp2_with fail;refine (hTk.out _ _ own).mono ?_;rintro en w1 ⟨rfl,hs1⟩;go_wp2_with fail;refine (hH.out _ _ z6).mono ?_;rintro en w2 ⟨rfl,hs2⟩;go_wp2_with fail;refine (hR.out _ _ z6).mono ?_;rintro en w3 ⟨rfl,hs3⟩;go_wp2_with fail
     go_end0
     exact ⟨rfl,z3⟩
end Go.Proofs.YtgiiidminlhbpaaGreatDoor
