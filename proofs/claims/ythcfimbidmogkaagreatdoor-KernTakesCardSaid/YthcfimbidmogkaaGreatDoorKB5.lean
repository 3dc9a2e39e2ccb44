/-
  Parts of the proof: KernG KernH KernY ConfP Awk Bits Isa IsaB IsaC KernS.
-/
import Derived.Shelf.Spec.TrailingZeros
import Derived.IntWalk
import Derived.Test.YthcfimbidmogkaaGreatDoorKB0
import Derived.Test.YthcfimbidmogkaaGreatDoorKB2
import Derived.Test.YthcfimbidmogkaaGreatDoorKB3
import Derived.Test.YthcfimbidmogkaaGreatDoorKB4
set_option linter.unusedVariables false
set_option linter.unusedSimpArgs false
set_option maxHeartbeats 32000000
set_option maxRecDepth 100000
namespace Go.Proofs.YthcfimbidmogkaaGreatDoor
open Go.RowKit Go.Sx Go.Dl Go.Lk Go.Rq Go.Au
def zbn : Int → List Ev → Int → Prop
 | a,[],b=>a ≤ b
 | a,e :: l,b=>a ≤ e.cy ∧ zbn e.cy l b
theorem zbn.le : ∀ {l : List Ev} {a b : Int},zbn a l b → a ≤ b
 | [],_,_,h=>h
 | _ :: _,_,_,h=>Int.le_trans h.1 (zbn.le h.2)
theorem zbn.app : ∀ {l : List Ev} {a b d : Int} {l' : List Ev},zbn a l b → zbn b l' d → zbn a (l ++ l') d
 | [],a,b,d,[],h,k=>Int.le_trans h k
 | [],a,b,d,e :: l',h,k=>⟨Int.le_trans h k.1,k.2⟩
 | e :: l,a,b,d,l',h,k=>⟨h.1,zbn.app h.2 k⟩
structure zH (c : Cf) (lo n m : Nat) (K K' : Kn) : Prop where
 count : K'.count = K.count
 ev : ∃ evs,K'.told = K.told ++ evs ∧ evs.length ≤ n ∧ (∀ e ∈ evs,okE e = true ∧ z1l c.filter e.k.toNat = true ∧ e.co = K.count) ∧
  (0 ≤ K.cycle → K.cycle + n * 64 + m < 18446744073709551616 → K.cycle + lo ≤ K'.cycle ∧ K'.cycle ≤ K.cycle + n * 64 + m ∧ zbn K.cycle evs K'.cycle)
section
variable {c : Cf} {lo lo' n n' m m' : Nat} {K K1 K2 : Kn}
theorem zH.set (h1 : K1.told = K.told) (h2 : K1.cycle = K.cycle) (h3 : K1.count = K.count) : zH c 0 n m K K1 :=
 ⟨h3,[],by rw [h1];simp,Nat.zero_le _,by simp,fun h0 h=>⟨by rw [h2];simp,by rw [h2];omega,by show K.cycle ≤ K1.cycle;rw [h2];omega⟩⟩
theorem zH.refl : zH c 0 n m K K:=zH.set rfl rfl rfl
theorem zH.trans (h : zH c lo n m K K1) (k : zH c lo' n' m' K1 K2) : zH c (lo + lo') (n + n') (m + m') K K2:=by
 obtain ⟨e1,l,a1,an,a2,a3⟩:=h;obtain ⟨e2,l',b1,bn,b2,b3⟩:=k;refine ⟨e2.trans e1,l ++ l',by rw [b1,a1,List.append_assoc],by rw [List.length_append];omega,fun e he=>?_,fun h0 h1=>?_⟩
 ·rcases List.mem_append.1 he with x | x
  ·exact a2 e x
  ·have:=b2 e x;rw [e1] at this;exact this
 ·obtain ⟨c1,c2,c3⟩:=a3 h0 (by omega);obtain ⟨d1,d2,d3⟩:=b3 (by omega) (by omega);exact ⟨by omega,by omega,c3.app d3⟩
theorem zH.le (h : zH c lo n m K K1) (h1 : lo' ≤ lo) (h2 : n ≤ n') (h3 : m ≤ m') : zH c lo' n' m' K K1:=by
 obtain ⟨e1,l,a1,an,a2,a3⟩:=h;refine ⟨e1,l,a1,by omega,a2,fun h0 h=>?_⟩;obtain ⟨c1,c2,c3⟩:=a3 h0 (by omega);exact ⟨by omega,by omega,c3⟩
theorem zH.len (h : zH c lo n m K K1) : K1.told.length ≤ K.told.length + n:=by
 obtain ⟨_,l,a1,an,_⟩:=h;rw [a1,List.length_append];omega
theorem zH.pre (h : zH c lo n m K1 K2) (h1 : K1.told = K.told) (h2 : K1.cycle = K.cycle) (h3 : K1.count = K.count) : zH c lo n m K K2:=by
 have:=(zH.set (c:=c) (n:=0) (m:=0) h1 h2 h3).trans h;exact this.le (by omega) (by omega) (by omega)
theorem zH.post (h : zH c lo n m K K1) (h1 : K2.told = K1.told) (h2 : K2.cycle = K1.cycle) (h3 : K2.count = K1.count) : zH c lo n m K K2:=by
 have:=h.trans (zH.set (c:=c) (n:=0) (m:=0) h1 h2 h3);exact this.le (by omega) (by omega) (by omega)
theorem zH.pl (h : zH c lo n m K1 K2) (h1 : K1.told = K.told) (h2 : K1.cycle = K.cycle) (h3 : K1.count = K.count) (g1 : lo' ≤ lo) (g2 : n ≤ n') (g3 : m ≤ m') : zH c lo' n' m' K K2:=(h.pre h1 h2 h3).le g1 g2 g3
theorem zH.ql (h : zH c lo n m K K1) (h1 : K2.told = K1.told) (h2 : K2.cycle = K1.cycle) (h3 : K2.count = K1.count) (g1 : lo' ≤ lo) (g2 : n ≤ n') (g3 : m ≤ m') : zH c lo' n' m' K K2:=(h.post h1 h2 h3).le g1 g2 g3
theorem zu (cf : z7T c) {kd : Nat} {a b v : Int} (hk : 1 ≤ kd ∧ kd ≤ 24) (ok : okN kd a.toNat b.toNat v.toNat = true) : zH c 0 1 0 K (K.tell c kd a b v):=by
 have hch:=cf.charge
 by_cases hp : z1l c.filter kd = true
 ·have e : K.tell c kd a b v = { K with told:=K.told ++ [⟨kd,K.cycle,K.count,a.toNat,b.toNat,v.toNat⟩],cycle:=(K.cycle + c.charge) % 18446744073709551616 }:=by unfold Kn.tell;rw [if_pos hp]
  rw [e];refine ⟨rfl,[⟨kd,K.cycle,K.count,a.toNat,b.toNat,v.toNat⟩],rfl,Nat.le_refl _,fun e he=>?_,fun h0 h=>?_⟩
  ·rw [List.mem_singleton] at he;subst he;refine ⟨?_,hp,rfl⟩;unfold okE;show (decide (1 ≤ (kd : Int) ∧ (kd : Int) ≤ 24) && okN (kd : Int).toNat _ _ _) = true;rw [Int.toNat_natCast,ok,Bool.and_true];exact decide_eq_true ⟨by omega,by omega⟩
  ·show K.cycle + _ ≤ (K.cycle + c.charge) % 18446744073709551616 ∧ (K.cycle + c.charge) % 18446744073709551616 ≤ _ ∧ _;rw [Int.emod_eq_of_lt (by omega) (by omega)];exact ⟨by omega,by omega,Int.le_refl _,by show K.cycle ≤ K.cycle + c.charge;omega⟩
 ·have e : K.tell c kd a b v = K:=by unfold Kn.tell;rw [if_neg hp]
  rw [e];exact zH.refl
theorem z2e {x : Int} (h0 : lo ≤ x) (h1 : x ≤ m) : zH c lo 0 m K (K.cost x):=by
 refine ⟨rfl,[],by simp [Kn.cost],Nat.zero_le _,by simp,fun g0 g=>?_⟩;show K.cycle + lo ≤ (K.cycle + x) % 18446744073709551616 ∧ (K.cycle + x) % 18446744073709551616 ≤ _ ∧ K.cycle ≤ (K.cycle + x) % 18446744073709551616;rw [Int.emod_eq_of_lt (by omega) (by omega)];omega
end
section
variable {c : Cf} {K : Kn}
theorem z1s {kd a b v : Nat} (h : win a (shp kd).1 = true ∧ win b (shp kd).2.1 = true ∧ win v (shp kd).2.2 = true) (h5 : kd ≠ 5) : okN kd a b v = true:=by
 unfold okN;rw [h.1,h.2.1,h.2.2];simp [h5]
theorem z2M (cf : z7T c) {t : Nat} (ht : t < 64) {why a : Int} (hw : why = 0 ∨ why = 1) : zH c 0 1 0 K (K.wake c t why a):=by
 unfold Kn.wake;dsimp only;have h1:=zu (K:={ K with S:=z33 (64 + t) K.S }.setT t { K.T t with rg:=(K.T t).rg.set (K.call c t).a.toNat a,st:=1,on:=0 }) cf (kd:=10) (a:=t) (b:=why) (v:=0) (by decide) (z1s ⟨?_,?_,rfl⟩ (by decide))
 ·exact (zH.pre h1 rfl rfl rfl : zH c 0 1 0 K _).post rfl rfl rfl
 ·simp [shp,win];omega
 ·simp [shp,win];omega
theorem z8g (h : Inv c K) : ∀ n,n ≤ c.ts.length → zH c 0 n 0 K (K.relev c n)
 | 0,_=>zH.refl
 | n + 1,hn=>by
  have ih:=z8g h n (by omega);obtain ⟨hi,_,hL⟩:=z4K h n (by omega);have hr:=h.L.fit.nowr n (by rw [h.Ln];omega);have hr : 0 ≤ lg K.L.now n ∧ lg K.L.now n < 32:=hr;have hnt:=h.cf.nt;unfold Kn.relev;dsimp only;rw [hL]
  split
  ·exact ih.le (by omega) (by omega) (by omega)
  ·have h1:=zu (K:=K.relev c n) h.cf (kd:=11) (a:=n) (b:=lg K.L.now n) (v:=0) (by decide) (z1s ⟨?_,?_,rfl⟩ (by decide))
   ·exact zH.post ((ih.trans h1).le (by omega) (by omega) (by omega)) rfl rfl rfl
   ·simp [shp,win];omega
   ·simp [shp,win];omega
theorem z3B (h : Inv c K) : zH c 0 64 0 K (K.relevel c):=(z8g h _ (Nat.le_refl _)).le (by omega) h.cf.nt (by omega)
theorem z6S (h : Inv c K) {who : Int} (hw : who ≤ 80) {s : Nat} (hs : s < c.sems.length) : zH c 0 2 0 K (K.post c who s):=by
 have hok:=z5G (h.sm s hs) K.L.now;have hns:=h.cf.ns;have h1 : zH c 0 1 0 K (({ K with sm:=upd K.sm s (z1Z (K.sm s).1 (K.sm s).2,z2I K.L.now (K.sm s).2) }).tell c 14 who s (z1Z (K.sm s).1 (K.sm s).2)):=by
  refine zH.pre (zu h.cf (by decide) (z1s ⟨?_,?_,?_⟩ (by decide))) rfl rfl rfl
  ·simp [shp,win];omega
  ·simp [shp,win];omega
  ·have:=hok.hi;simp [shp,win];omega
 unfold Kn.post;dsimp only
 split
 ·exact zH.refl
 ·split
  ·rename_i hne
   have hb:=z1n K.L.now _ hne;have hb2:=h.smr s hs _ hb;have hnt:=h.cf.nt;exact (h1.trans (z2M h.cf (by omega) (.inr rfl))).le (by omega) (by omega) (by omega)
  ·exact h1.le (by omega) (by omega) (by omega)
theorem zac (h : Inv c K) {t : Nat} (ht : t < c.ts.length) : zH c 0 1 0 K (K.timeout c t):=by
 have hnt:=h.cf.nt;have key : ∀ {K1 : Kn} {a : Int},K1.told = K.told → K1.cycle = K.cycle → K1.count = K.count → zH c 0 1 0 K (K1.wake c t 0 a):=fun e1 e2 e3=>zH.pre (z2M h.cf (by omega) (.inl rfl)) e1 e2 e3;unfold Kn.timeout;dsimp only
 repeat' split
 ·exact zH.refl
 all_goals exact key rfl rfl rfl
theorem zaa (h : Inv c K) {t : Nat} (ht : t < c.ts.length) : zH c 0 1 0 K (K.release c t):=by
 have hnt:=h.cf.nt;have hl:=(h.T t ht).late;have key : zH c 0 1 0 K (if (K.T t).st = 0 then
   { (K.setT t { K.T t with job:=((K.T t).job + 1) % 4294967296,st:=1 }).tell c 6 t 0 (((K.T t).job + 1) % 4294967296) with R:=z9N ((K.setT t { K.T t with job:=((K.T t).job + 1) % 4294967296,st:=1 }).tell c 6 t 0 (((K.T t).job + 1) % 4294967296)).R t (K.T t).lev.toNat }
  else (K.setT t { K.T t with late:=min ((K.T t).late + 1) 255 }).tell c 7 t 0 (min ((K.T t).late + 1) 255)):=by
  split
  ·have h1:=zu (K:=K.setT t { K.T t with job:=((K.T t).job + 1) % 4294967296,st:=1 }) h.cf (kd:=6) (a:=t) (b:=0) (v:=((K.T t).job + 1) % 4294967296) (by decide) (z1s ⟨?_,rfl,rfl⟩ (by decide))
   ·exact (zH.pre h1 rfl rfl rfl : zH c 0 1 0 K _).post rfl rfl rfl
   ·simp [shp,win];omega
  ·refine zH.pre (zu h.cf (by decide) (z1s ⟨?_,rfl,?_⟩ (by decide))) rfl rfl rfl
   ·simp [shp,win];omega
   ·simp [shp,win];omega
 unfold Kn.release;dsimp only
 split
 ·exact key.post rfl rfl rfl
 ·exact key
theorem zf2 (h : Inv c K) {id : Int} (hp : z3P c K id) : zH c 0 3 0 K (K.over c id):=by
 unfold Kn.over;dsimp only;obtain ⟨h0,h1,h2,h3⟩:=hp
 split
 ·rename_i e
  have:=h1 e;exact (zaa h (by omega)).le (by omega) (by omega) (by omega)
 split
 ·rename_i e1 e2
  have:=h2 (by omega) e2;exact (zac h (by omega)).le (by omega) (by omega) (by omega)
 ·rename_i e1 e2
  have h4:=h3 (by omega);have hnm:=h.cf.nm;have ht:=h.cf.timers (lg c.timers (id - 128).toNat) (ze1 (by omega));have hi:=zl h 18 (id - 128) 0 0;have g1 : zH c 0 1 0 K (K.tell c 18 (id - 128) 0 0):=zu h.cf (by decide) (z1s ⟨by simp [shp,win];omega,rfl,rfl⟩ (by decide));have g2:=z6S hi (who:=80) (by omega) (s:=(lg c.timers (id - 128).toNat).toNat) (by omega)
  split
  ·rename_i hne
   have hp0 : (K.tell c 18 (id - 128) 0 0).post c 80 (lg c.timers (id - 128).toNat).toNat = K.tell c 18 (id - 128) 0 0:=by
    unfold Kn.post;exact if_pos hne
   rw [hp0];refine (g1.trans (zu h.cf (by decide) (z1s ⟨rfl,?_,rfl⟩ (by decide)))).le (by omega) (by omega) (by omega);unfold Kn.postE postE
   repeat' split
   all_goals rfl
  ·exact (g1.trans g2).le (by omega) (by omega) (by omega)
theorem z5l : ∀ (l : List Int) (K : Kn) (_ : Inv c K) (_ : ∀ id ∈ l,z3P c K id),zH c 0 (3 * l.length) 0 K (l.foldl (fun K id=>K.over c id) K)
 | [],K,_,_=>zH.refl
 | id :: l,K,h,hp=>by
  have h1:=zf2 h (hp id (by simp));have h2:=z5l l (K.over c id) (zcX h (hp id (by simp))) fun x hx=>z7r (z7j id) (hp x (by simp [hx]));exact (h1.trans h2).le (by omega) (by simp;omega) (by omega)
theorem zdf {S : List Ck} (h : SOk S) : (z2H S).length ≤ 256:=by
 have h1:=z5I h;have h2 : (z2H S).length ≤ S.length:=by
  unfold z2H
  first
   | (rw [List.length_map];exact List.length_filter_le _ _)
   | exact Nat.le_trans (List.length_filterMap_le _ _) (Nat.le_refl _)
 omega
theorem zab (h : Inv c K) (hf : ¬ K.full) (hs : K.stopped = false) : zH c 0 768 0 { K with count:=K.count + 1,S:=z2X K.S } (K.tick c):=by
 rw [z9J hf hs];have:=zdf h.S;exact (z5l (z2H K.S) _ (z5p h hf) fun id hid=>z5y h hid).le (by omega) (by omega) (by omega)
theorem z6T (h : Inv c K) (a b : Nat) : ∀ n,n ≤ c.ls.length → zH c 0 n 0 K (K.raiseN c a b n)
 | 0,_=>zH.refl
 | n + 1,hn=>by
  have ih:=z6T h a b n (by omega);have hnl:=h.cf.nl;unfold Kn.raiseN;dsimp only
  split
  ·refine ih.trans (lo':=0) (zu h.cf (by decide) (z1s ⟨?_,?_,rfl⟩ (by decide)))
   ·simp [shp,win];omega
   ·split <;> rfl
  ·exact ih.le (by omega) (by omega) (by omega)
theorem z8f (h : Inv c K) (bits : Nat) : zH c 0 16 0 K (K.raise c bits):=by
 unfold Kn.raise
 split
 ·exact zH.refl
 ·have h1 : Inv c { K with ln:=K.ln.raise bits }:=z8j h bits;exact zH.pre ((z6T h1 _ _ _ (Nat.le_refl _)).le (by omega) h.cf.nl (by omega)) rfl rfl rfl
theorem zR (h : Inv c K) {who : Nat} (hw : z3u c who) {i : Ins} (hi : zI i) {e : Int} (he : 0 ≤ e ∧ e ≤ 16) : zH c 0 1 0 K (K.refuse c who i e):=by
 have hnl:=h.cf.nl;have hop:=hi.op;have hwho : who < 80:=by rcases hw with a | a <;> omega
 unfold Kn.refuse;refine zH.post (zu h.cf (kd:=23) (a:=who) (b:=e) (v:=i.op) (by decide) (z1s ⟨?_,?_,?_⟩ (by decide))) ?_ ?_ ?_
 ·simp [shp,win];omega
 ·simp [shp,win];omega
 ·simp [shp,win];omega
 all_goals unfold Kn.put;split <;> rfl
theorem zQ {who : Nat} (n v : Int) : (K.put who n v).told = K.told:=by unfold Kn.put;split <;> rfl
theorem z0T {who : Nat} (n v : Int) : (K.put who n v).cycle = K.cycle:=by unfold Kn.put;split <;> rfl
theorem z0S {who : Nat} (n v : Int) : (K.put who n v).count = K.count:=by unfold Kn.put;split <;> rfl
theorem zH.put {K1 : Kn} {lo n m : Nat} {who : Nat} {r v : Int} (h : zH c lo n m K K1) : zH c lo n m K (K1.put who r v):=h.post (zQ _ _) (z0T _ _) (z0S _ _)
theorem z4n (h : Inv c K) {t : Nat} (ht : t < 64) {m next : Int} (hm : 0 ≤ m ∧ m < 32) (hn : next = 255 ∨ 0 ≤ next ∧ next < 64) : zH c 0 3 0 K (K.handed c t m next):=by
 unfold Kn.handed;dsimp only;have h1 : zH c 0 1 0 K (K.tell c 13 t m 0):=zu h.cf (by decide) (z1s ⟨by simp [shp,win];omega,by simp [shp,win];omega,rfl⟩ (by decide))
 split
 ·exact h1.le (by omega) (by omega) (by omega)
 ·rename_i e
  have hn:=hn.resolve_left e;refine ((h1.trans (z2M h.cf (t:=next.toNat) (by omega) (.inr rfl))).trans (lo':=0) (zu h.cf (kd:=12) (by decide) (z1s ⟨?_,?_,rfl⟩ (by decide)))).le (by omega) (by omega) (by omega)
  ·simp [shp,win];omega
  ·simp [shp,win];omega
theorem z4v (h : Inv c K) (t m : Int) : (zi K.L t m).1 = 255 ∨ 0 ≤ (zi K.L t m).1 ∧ (zi K.L t m).1 < 64:=by
 rcases z0D K.L h.L t m with ⟨_,_,k⟩ | ⟨_,_,_,_,_,_,k⟩ | ⟨a,b,d,e,f,g,i,k⟩
 ·exact .inl k
 ·rw [k];exact .inl rfl
 ·have hx:=z4X h.L (m:=m.toNat) (by omega) i;rw [k];have:=h.cf.nt;have:=h.Ln;exact .inr ⟨hx.1,by have:=hx.2.1;dsimp only;omega⟩
theorem zeY (h : Inv c K) {t : Nat} (ht : t < 64) {m : Int} (hm : 0 ≤ m ∧ m < 32) : zH c 0 3 0 K (K.give c t m):=by
 have ho:=z2q h.L t m;have h1 : Inv c { K with L:=zE K.L t m }:=zah h (z1N h.L t m) (by rw [ho.1]) ho.2 fun u hu e=>by
  rcases z2b h.L t m e with f | f
  ·exact h.Lw u hu f.1
  ·exact h.Lw u hu f.1
 unfold Kn.give;exact zH.pre (z4n h1 ht hm (z4v h t m)) rfl rfl rfl
theorem z5k {t : Nat} (ht : t < 64) : ∀ (l : List Int) (K : Kn),Inv c K → (∀ m ∈ l,0 ≤ m ∧ m < 32) → zH c 0 (3 * l.length) 0 K (l.foldl (fun K m=>K.give c t m) K)
 | [],_,_,_=>zH.refl
 | m :: l,K,h,hm=>((zeY h ht (hm m (by simp))).trans (z5k ht l _ (z6n h t m) fun x hx=>hm x (by simp [hx]))).le (by omega) (by simp;omega) (by omega)
theorem zcT {L : Lk} (hL : Fit L) (t : Int) : (z1O L t).length ≤ 32 ∧ ∀ m ∈ z1O L t,0 ≤ m ∧ m < 32:=by
 have hm:=hL.m;unfold z1O
 split
 ·refine ⟨Nat.le_trans (zaf _ _ _) hm,fun m h=>?_⟩;unfold z6V at h;obtain ⟨x,hx,rfl⟩:=List.mem_map.1 h;have:=List.mem_range.1 (List.mem_filter.1 hx).1;omega
 ·exact ⟨by simp,fun m h=>by cases h⟩
def Kn.left (K : Kn) (t : Nat) (status : Int) : Kn:={ K.setT t { K.T t with st:=status } with R:=z5F K.R t }
theorem za9 {t : Nat} (ht : t < 64) {status : Int} (h : Inv c (K.left t status)) : zH c 0 160 0 K (K.gone c t status):=by
 have h1:=z5n h t;have hr:=zcT h.L.fit (t : Int);have h2:=z3E t (z1O K.L t) _ h1;have g1:=z5k ht (z1O K.L t) _ h1 hr.2;have hr1 : (z1O K.L t).length ≤ 32:=hr.1;exact zH.pre ((g1.trans (z3B h2)).le (by omega) (by omega) (by omega)) rfl rfl rfl
theorem z2L (cf : z7T c) {t : Nat} (ht : t < 64) {status on : Int} (ho : on = 0 ∨ 32 ≤ on ∧ on < 160) {i : Ins} : zH c 0 1 0 K (K.hold c t status on i):=by
 have key : ∀ K1 : Kn,zH c 0 1 0 K1 (K1.tell c 9 t on 0):=fun K1=>zu cf (by decide) (z1s ⟨by simp [shp,win];omega,by simp [shp,win];omega,rfl⟩ (by decide));unfold Kn.hold;dsimp only;refine zH.pre (key _) ?_ ?_ ?_
 all_goals by_cases e : i.d = 2
 all_goals simp only [e,if_true,if_false,Kn.setT]
theorem z1A (t : Nat) (i : Ins) : 0 ≤ K.holdE c t i ∧ K.holdE c t i ≤ 16:=by
 unfold Kn.holdE;repeat' split
 all_goals simp
end
theorem zcl (q : Mq) : 0 ≤ q.sendE ∧ q.sendE ≤ 16:=by
 unfold Mq.sendE
 repeat' split
 all_goals simp
theorem zce (q : Mq) : 0 ≤ q.recvE ∧ q.recvE ≤ 16:=by
 unfold Mq.recvE
 repeat' split
 all_goals simp
section
variable {c : Cf} {K : Kn}
theorem z25 {who : Nat} (h : Inv c K) (hw : z3u c who) : who < 80:=by
 have:=h.cf.nl
 rcases hw with a | a <;> omega
theorem zf4 (h : Inv c K) {who : Nat} (hw : z3u c who) (hc : who < 64 → z20 c K who) {i : Ins} (hi : zI i) (hm : 64 ≤ who → i.d = 1) (hq : i.k < c.queues.length) : zH c 0 3 0 K (K.send c who i):=by
 have hk0:=hi.k.1;have hnq:=h.cf.nq;have w80:=z25 h hw;have hlt : i.k.toNat < c.queues.length:=by omega
 have hQ:=h.ml _ hlt;have he:=zcl (K.ml i.k.toNat);unfold Kn.send;dsimp only
 split
 ·split
  ·exact (zR h hw hi he).le (by omega) (by omega) (by omega)
  ·rename_i hd
   split
   ·have h64 : who < 64:=by
     rcases Nat.lt_or_ge who 64 with a | a
     ·exact a
     ·exact absurd (hm a) hd
    exact zH.post ((z2L h.cf h64 (status:=5) (on:=96 + i.k) (i:=i) (by omega)).le (by omega) (by omega) (by omega)) rfl rfl rfl
   ·exact (zR h hw hi (z1A who i)).le (by omega) (by omega) (by omega)
 ·have g1 : zH c 0 1 0 K ((({ K with ml:=upd K.ml i.k.toNat ((K.ml i.k.toNat).send K.L.now (K.reg who i.b)) }).put who i.a 0).tell c 16 who i.k (K.reg who i.b)):=by
   refine zH.pre (zu h.cf (by decide) (z1s ⟨?_,?_,rfl⟩ (by decide))) (zQ _ _) (z0T _ _) (z0S _ _)
   ·simp [shp,win];omega
   ·simp [shp,win];omega
  split
  ·exact g1.le (by omega) (by omega) (by omega)
  ·rename_i hne
   have ht : 0 ≤ (K.ml i.k.toNat).sendT K.L.now ∧ (K.ml i.k.toNat).sendT K.L.now < 64:=by
    unfold Mq.sendT at hne ⊢
    split at hne
    ·rename_i hr
     rw [if_pos hr];have hb:=z1n K.L.now _ hr;have:=h.mlr _ hlt _ hb;have hn:=h.cf.nt;have h0:=(hQ.1.r.2 _ hb);omega
    ·exact absurd rfl hne
   refine ((g1.trans (lo':=0) (n':=1) (m':=0) (zH.pre (zu h.cf (kd:=17) (by decide) (z1s ⟨?_,?_,rfl⟩ (by decide))) (zQ _ _) (z0T _ _) (z0S _ _))).trans (z2M h.cf (by omega) (.inr rfl))).le (by omega) (by omega) (by omega)
   ·simp [shp,win];omega
   ·simp [shp,win];omega
theorem zf3 (h : Inv c K) {who : Nat} (hw : z3u c who) (hc : who < 64 → z20 c K who) {i : Ins} (hi : zI i) (hm : 64 ≤ who → i.d = 1) (hq : i.k < c.queues.length) : zH c 0 3 0 K (K.recv c who i):=by
 have hk0:=hi.k.1;have hnq:=h.cf.nq;have w80:=z25 h hw;have hlt : i.k.toNat < c.queues.length:=by omega
 have hQ:=h.ml _ hlt;have he:=zce (K.ml i.k.toNat);unfold Kn.recv;dsimp only
 split
 ·split
  ·exact (zR h hw hi he).le (by omega) (by omega) (by omega)
  ·rename_i hd
   split
   ·have h64 : who < 64:=by
     rcases Nat.lt_or_ge who 64 with a | a
     ·exact a
     ·exact absurd (hm a) hd
    exact zH.post ((z2L h.cf h64 (status:=6) (on:=128 + i.k) (i:=i) (by omega)).le (by omega) (by omega) (by omega)) rfl rfl rfl
   ·exact (zR h hw hi (z1A who i)).le (by omega) (by omega) (by omega)
 ·have g1 : zH c 0 1 0 K (((({ K with ml:=upd K.ml i.k.toNat ((K.ml i.k.toNat).recv K.L.now) }).put who i.b ((K.ml i.k.toNat).recvV)).put who i.a 0).tell c 17 who i.k ((K.ml i.k.toNat).recvV)):=by
   refine zH.pre (zu h.cf (by decide) (z1s ⟨?_,?_,rfl⟩ (by decide))) ((zQ _ _).trans (zQ _ _)) ((z0T _ _).trans (z0T _ _)) ((z0S _ _).trans (z0S _ _))
   ·simp [shp,win];omega
   ·simp [shp,win];omega
  split
  ·exact g1.le (by omega) (by omega) (by omega)
  ·rename_i hne
   have ht : 0 ≤ (K.ml i.k.toNat).recvT K.L.now ∧ (K.ml i.k.toNat).recvT K.L.now < 64:=by
    unfold Mq.recvT at hne ⊢
    split at hne
    ·exact absurd rfl hne
    ·rename_i hr
     rw [if_neg hr];have hb:=z1n K.L.now _ (fun e=>hr (.inr e));have:=h.mls _ hlt _ hb;have hn:=h.cf.nt;have h0:=(hQ.1.s.2 _ hb);omega
   refine ((g1.trans (lo':=0) (n':=1) (m':=0) (zu h.cf (kd:=16) (by decide) (z1s ⟨?_,?_,rfl⟩ (by decide)))).trans (z2M h.cf (by omega) (.inr rfl))).le (by omega) (by omega) (by omega)
   ·simp [shp,win];omega
   ·simp [shp,win];omega
theorem z7i (L : Lk) (t m : Int) : 0 ≤ (z0f L t m).2.1 ∧ (z0f L t m).2.1 ≤ 16:=by
 unfold z0f;repeat' split
 all_goals simp
theorem z55 (L : Lk) (t m : Int) : 0 ≤ (zi L t m).2.1 ∧ (zi L t m).2.1 ≤ 16:=by
 unfold zi;repeat' split
 all_goals simp
theorem zbZ {L : Lk} (hg : Good L) {t m : Int} (he : (z0f L t m).2.1 = 0) : 0 ≤ m ∧ m < 32:=by
 have:=hg.fit.m
 rcases z1C L hg t m with ⟨_,k⟩ | ⟨a,b,d,e,f,g,k⟩ | ⟨a,b,d,e,f,g,i,j,k⟩
 ·exact absurd he k
 ·omega
 ·omega
theorem zbj {L : Lk} {t m : Int} (hL : L.ow.length ≤ 32) (he : (zi L t m).2.1 = 0) : 0 ≤ m ∧ m < 32:=by
 unfold zi at he
 split at he
 ·exact absurd he (by simp)
 split at he
 ·exact absurd he (by simp)
 ·rename_i h;have:=Classical.not_not.1 h;omega
theorem z5Q (h : Inv c K) {t : Nat} (ht : t < c.ts.length) (hc : z20 c K t) {i : Ins} (hd : i.d = 0) (he : (z0f K.L t i.k).2.1 = 0) : Inv c (({ K with L:=z1B K.L t i.k }).hold c t 3 (32 + i.k) i):=by
 have hg:=h.L;have ho:=zaD hg t i.k;have hm:=zbZ hg he;have hr:=z2B h ht hc.st;have hx:=z5N h ht hc.at_ (status:=3) (on:=32 + i.k) (by omega) (by omega) (by omega) (by omega) (by omega);have hv:=z4J h hr (i:=i) hx (fun e=>absurd e (by omega));have hT : (K.hold c t 3 (32 + i.k) i).T = upd K.T t { K.T t with st:=3,on:=32 + i.k }:=zag _ _ _ _;have hL : (K.hold c t 3 (32 + i.k) i).L = K.L:=zjc _ _ _ _;have e1 : ({ K with L:=z1B K.L t i.k }).hold c t 3 (32 + i.k) i = { K.hold c t 3 (32 + i.k) i with L:=z1B K.L t i.k }:=by
  have hd2 : ¬ i.d = 2:=by omega
  by_cases e : z1l c.filter 9 = true
  ·simp only [Kn.hold,Kn.tell,Kn.setT,hd2,e,if_true,if_false]
  ·simp only [Kn.hold,Kn.tell,Kn.setT,hd2,e,if_true,if_false,Bool.false_eq_true]
 rw [e1];refine zah hv (z5j hg t i.k) (by rw [hL,ho.1]) (by rw [hL,ho.2]) fun u hu e=>?_;rw [hT];unfold upd
 split
 ·rfl
 ·rename_i hne
  rcases z9j hg t i.k e with f | f
  ·exact h.Lw u hu f
  ·omega
theorem zf0 (h : Inv c K) {t : Nat} (ht : t < c.ts.length) (hc : z20 c K t) {i : Ins} (hi : zI i) (hd : i.d = 0) : zH c 0 65 0 K (K.lock c t i):=by
 have hnt:=h.cf.nt;have hw:=zey h ht;unfold Kn.lock;dsimp only
 by_cases he : (z0f K.L t i.k).2.1 = 0
 ·rw [if_neg (Classical.not_not.2 he)];have hm:=zbZ h.L he
  by_cases hh : (z0f K.L t i.k).1 = true
  ·rw [if_pos hh];refine zH.pl (zu h.cf (by decide) (z1s ⟨?_,?_,rfl⟩ (by decide))) (zQ _ _) (z0T _ _) (z0S _ _) (by omega) (by omega) (by omega)
   ·simp [shp,win];omega
   ·simp [shp,win];omega
  ·rw [if_neg hh];have h2:=z5Q h ht hc hd he;have g3 : zH c 0 1 0 K (({ K with L:=z1B K.L t i.k }).hold c t 3 (32 + i.k) i):=zH.pre (z2L h.cf (by omega) (by omega)) rfl rfl rfl;exact (g3.trans (z3B h2)).le (by omega) (by omega) (by omega)
 ·rw [if_pos he];exact (zR h hw hi (z7i _ _ _)).le (by omega) (by omega) (by omega)
theorem z5S (h : Inv c K) {t : Nat} (ht : t < c.ts.length) {i : Ins} : Inv c ((({ K with L:=zE K.L t i.k }).put t i.a 0).handed c t i.k (zi K.L t i.k).1):=by
 have h1:=z6n (z0v h (zey h ht) i.a (v:=0) ⟨by simp,by simp⟩) t i.k;have e1 : (K.put t i.a 0).give c t i.k = (({ K with L:=zE K.L t i.k }).put t i.a 0).handed c t i.k (zi K.L t i.k).1:=by
  unfold Kn.give;rw [zms];unfold Kn.put;split <;> rfl
 rw [e1] at h1;exact h1
theorem zby (h : Inv c K) {t : Nat} (ht : t < c.ts.length) {i : Ins} (hi : zI i) : zH c 0 67 0 K (K.unlock c t i):=by
 have hnt:=h.cf.nt;have hw:=zey h ht;unfold Kn.unlock;dsimp only
 by_cases he : (zi K.L t i.k).2.1 = 0
 ·rw [if_neg (Classical.not_not.2 he)];have hm:=zbj h.L.fit.m he;have h1:=z5S h ht (i:=i);have ho:=z2q h.L t i.k;have h2 : Inv c { K with L:=zE K.L t i.k }:=zah h (z1N h.L t i.k) (by rw [ho.1]) ho.2 fun u hu e=>by
   rcases z2b h.L t i.k e with f | f
   ·exact h.Lw u hu f.1
   ·exact h.Lw u hu f.1
  have g1:=z4n (z0v h2 hw i.a (v:=0) ⟨by simp,by simp⟩) (t:=t) (by omega) hm (z4v h t i.k);have g3 : zH c 0 3 0 K ((({ K with L:=zE K.L t i.k }).put t i.a 0).handed c t i.k (zi K.L t i.k).1):=zH.pre g1 (zQ _ _) (z0T _ _) (z0S _ _);exact (g3.trans (z3B h1)).le (by omega) (by omega) (by omega)
 ·rw [if_pos he];exact (zR h hw hi (z55 _ _ _)).le (by omega) (by omega) (by omega)
theorem zdJ (h : Inv c K) {t : Nat} (ht : t < c.ts.length) {i : Ins} (hi : zI i) : zH c 0 1 0 K (K.await c t i):=by
 have hnt:=h.cf.nt;have hns:=h.cf.ns;have hk0:=hi.k.1;have hw:=zey h ht;unfold Kn.await;dsimp only
 split
 ·exact zR h hw hi (by omega)
 ·rename_i hs
  have hok:=z5H (h.sm i.k.toNat (by omega))
  split
  ·refine zH.pre (zu h.cf (kd:=15) (by decide) (z1s ⟨?_,?_,?_⟩ (by decide))) (zQ _ _) (z0T _ _) (z0S _ _)
   ·simp [shp,win];omega
   ·simp [shp,win];omega
   ·have:=hok.hi;simp [shp,win];omega
  ·split
   ·refine zR h hw hi ?_;unfold z3t;split <;> simp
   ·split
    ·exact (z2L h.cf (by omega) (by omega)).post rfl rfl rfl
    ·exact zR h hw hi (z1A t i)
theorem zdL (h : Inv c K) {t : Nat} (ht : t < c.ts.length) {i : Ins} (hi : zI i) : zH c 0 1 0 K (K.sleep c t i):=by
 have hnt:=h.cf.nt;unfold Kn.sleep;dsimp only
 split
 ·exact zH.refl.put
 ·split
  ·exact zR h (zey h ht) hi (by omega)
  ·exact zH.pre (z2L h.cf (by omega) (by omega)) rfl rfl rfl
theorem zf1 (h : Inv c K) {t : Nat} (ht : t < c.ts.length) : zH c 0 2 0 K (K.next c t):=by
 have hnt:=h.cf.nt;unfold Kn.next;dsimp only;have g1 : zH c 0 1 0 K (K.tell c 8 t 0 (K.T t).job):=zu h.cf (by decide) (z1s ⟨by simp [shp,win];omega,rfl,rfl⟩ (by decide))
 split
 ·have g3:=zu (K:=(K.tell c 8 t 0 (K.T t).job).setT t { K.T t with late:=(K.T t).late - 1,job:=((K.T t).job + 1) % 4294967296 }) h.cf (kd:=6) (a:=t) (b:=0) (v:=((K.T t).job + 1) % 4294967296) (by decide) (z1s ⟨by simp [shp,win];omega,rfl,rfl⟩ (by decide));have g4 : zH c 0 1 0 (K.tell c 8 t 0 (K.T t).job) _:=zH.pre g3 rfl rfl rfl;exact (g1.trans g4).le (by omega) (by omega) (by omega)
 ·exact zH.ql g1 rfl rfl rfl (by omega) (by omega) (by omega)
theorem zbf (who : Nat) (i : Ins) : 0 ≤ K.timerE c who i ∧ K.timerE c who i ≤ 16:=by
 unfold Kn.timerE;repeat' split
 all_goals simp
theorem zdM (h : Inv c K) {who : Nat} (hw : z3u c who) {i : Ins} (hi : zI i) : zH c 0 1 0 K (K.timer c who i):=by
 have hk0:=hi.k.1;have w80:=z25 h hw;have hnm:=h.cf.nm;unfold Kn.timer;dsimp only
 split
 ·exact zR h hw hi (zbf who i)
 ·rename_i he
  have hk : i.k < c.timers.length:=by
   apply Classical.byContradiction;intro hn;apply he;unfold Kn.timerE;rw [if_pos (by omega)]
   decide
  split
  ·exact zH.pre (zu h.cf (kd:=19) (by decide) (z1s ⟨by simp [shp,win];omega,by simp [shp,win];omega,rfl⟩ (by decide))) (zQ _ _) (z0T _ _) (z0S _ _)
  ·exact zH.pre (zu h.cf (kd:=19) (by decide) (z1s ⟨by simp [shp,win];omega,by simp [shp,win];omega,rfl⟩ (by decide))) (zQ _ _) (z0T _ _) (z0S _ _)
theorem za7 {i : Ins} (h : z2K i = 0) (ho : i.op = 21 ∨ i.op = 22) : i.k < 16:=by
 unfold z2K at h
 split at h
 ·omega
 ·split at h
  ·rename_i h2
   unfold z8e at h2;simp only [Bool.and_eq_true] at h2;have h3:=h2.2;rw [if_neg (by omega),if_pos ho] at h3;exact of_decide_eq_true h3
  ·omega
theorem z6U (h : Inv c K) {who : Nat} (hw : z3u c who) (hc : who < 64 → z20 c K who) {i : Ins} (hi : zI i) (hm : 64 ≤ who → i.op = 27 ∨ i.op = 28 → i.d = 1) {value : Int} : zH c 0 3 0 K (K.shared c who i value):=by
 have hk0:=hi.k.1;have w80:=z25 h hw;unfold Kn.shared
 split
 ·rename_i e
  have hp:=za7 hi.form (.inl e);exact zH.pl (zu h.cf (by decide) (z1s ⟨by simp [shp,win];omega,by simp [shp,win];omega,rfl⟩ (by decide))) (zQ _ _) (z0T _ _) (z0S _ _) (by omega) (by omega) (by omega)
 split
 ·rename_i e
  have hp:=za7 hi.form (.inr e);exact (zu h.cf (kd:=20) (by decide) (z1s ⟨by simp [shp,win];omega,by simp [shp,win];omega,rfl⟩ (by decide))).le (by omega) (by omega) (by omega)
 split
 ·exact zH.set rfl rfl rfl
 split
 ·exact zH.refl.put
 split
 ·exact zH.refl.put
 split
 ·split
  ·exact (zR h hw hi (by omega)).le (by omega) (by omega) (by omega)
  ·rename_i hlt
   split
   ·refine (zR h hw hi ?_).le (by omega) (by omega) (by omega);unfold Kn.postE postE;repeat' split
    all_goals simp
   ·exact ((z6S h (who:=who) (by omega) (s:=i.k.toNat) (by omega)).put).le (by omega) (by omega) (by omega)
 split
 ·rename_i e
  split
  ·exact (zR h hw hi (by omega)).le (by omega) (by omega) (by omega)
  ·split
   ·exact zf4 h hw hc hi (fun a=>hm a e) (by omega)
   ·exact zf3 h hw hc hi (fun a=>hm a e) (by omega)
 split
 ·exact (zdM h hw hi).le (by omega) (by omega) (by omega)
 ·exact zH.refl
theorem zeN {i : Ins} (hi : zI i) (h : i.op = 31 ∨ i.op = 34) : i.d = 0:=by
 refine zeV hi.form ?_
 rcases h with e | e <;> rw [e] <;> rfl
theorem z7U (h : Inv c K) {t : Nat} (ht : t < c.ts.length) (hc : z20 c K t) {i : Ins} (hi : zI i) {value : Int} : zH c 0 67 0 K (K.serveTask c t i value):=by
 have hnt:=h.cf.nt;unfold Kn.serveTask
 split
 ·rename_i e;exact (zf0 h ht hc hi (zeN hi (.inl e))).le (by omega) (by omega) (by omega)
 split
 ·exact zby h ht hi
 split
 ·exact (zdJ h ht hi).le (by omega) (by omega) (by omega)
 split
 ·exact (zdL h ht hi).le (by omega) (by omega) (by omega)
 split
 ·exact zH.set rfl rfl rfl
 split
 ·exact (zf1 h ht).le (by omega) (by omega) (by omega)
 ·exact (z6U h (zey h ht) (fun _=>hc) hi (fun a=>by omega)).le (by omega) (by omega) (by omega)
theorem z0s {i : Ins} (hi : zI i) : 1 ≤ zT i ∧ zT i ≤ 1000:=by
 have hf:=hi.form;have h20 : i.op = 20 → 1 ≤ i.k ∧ i.k ≤ 1000:=fun e=>by
  unfold z2K at hf
  split at hf
  ·omega
  ·split at hf
   ·rename_i h2
    unfold z8e at h2;simp only [Bool.and_eq_true] at h2;have h3:=h2.2;rw [if_pos e] at h3;exact of_decide_eq_true h3
   ·omega
 unfold zT;rw [if_neg (Classical.not_not.2 hf)]
 repeat' split
 all_goals first | omega | (rename_i e;have:=h20 e;omega)
theorem z3x (i : Ins) (x : Cx) : 0 ≤ (doI i x).1 ∧ (doI i x).1 ≤ 16:=by
 unfold doI
 repeat' split
 all_goals first | (simp;done) | (dsimp only;split <;> simp)
theorem z0Z {who : Nat} (x : Cx) : (K.putCx who x).told = K.told ∧ (K.putCx who x).cycle = K.cycle ∧ (K.putCx who x).count = K.count:=by
 unfold Kn.putCx;split <;> exact ⟨rfl,rfl,rfl⟩
end
section
variable {c : Cf} {K : Kn}
abbrev Kn.ins (K : Kn) (c : Cf) (t : Nat) : Ins:=z0j (tcg c t).code (K.T t).at_ 37
abbrev Kn.paid (K : Kn) (c : Cf) (t : Nat) : Kn:=K.cost (zT (K.ins c t))
abbrev Kn.fwd (K : Kn) (t : Nat) : Kn:=K.setT t { K.T t with at_:=(K.T t).at_ + 1 }
theorem z4G (h : Inv c K) {t : Nat} (ht : t < c.ts.length) (hs : (K.T t).st = 1) (hop : (K.ins c t).op ≤ 20) :
  Inv c ((K.paid c t).putCx t (doI (K.ins c t) ((K.paid c t).cx t)).2) ∧ (((K.paid c t).putCx t (doI (K.ins c t) ((K.paid c t).cx t)).2).T t).st = 1:=by
 have hT:=h.T t ht;have ha:=hT.at_;have hi:=z0k h.cf ht ha.1;have hcf:=h.cf.t t ht;have h1:=zU h (zT (z0j (tcg c t).code (K.T t).at_ 37));have hl:=z3H (l:=(tcg c t).code) (a:=(K.T t).at_) (last:=37) ha.1;have t64 : t < 64:=by have:=h.cf.nt;omega
 unfold Kn.paid Kn.ins at *
 rcases hl with ⟨g1,g2,g3⟩ | ⟨_,g2⟩
 ·have hck:=(h.cf.tc t ht _ g3).1;have hcx : (K.cost (zT (z0j (tcg c t).code (K.T t).at_ 37))).cx t = ⟨(K.T t).at_,(K.T t).rg,K.tm t⟩:=by unfold Kn.cx;rw [if_pos t64];rfl
  rw [hcx];have hok:=z6N hi (x:=⟨(K.T t).at_,(K.T t).rg,K.tm t⟩) ⟨hT.rg,(h.tm t ht).2⟩;have hat:=zcI hi (x:=⟨(K.T t).at_,(K.T t).rg,K.tm t⟩) (n:=(tcg c t).code.length) ha.1 g1 (fun e=>by rw [g2] at e ⊢;exact z40 hck e);generalize doI (z0j (tcg c t).code (K.T t).at_ 37) ⟨(K.T t).at_,(K.T t).rg,K.tm t⟩ = r at hok hat;have hx : z8a c t { K.T t with at_:=r.2.at_,rg:=r.2.rg }:=⟨hT.lev,hT.late,hT.job,hok.1.rg,⟨hat.1,by have:=hat.2;have:=hcf.2.2.2.2.2;show r.2.at_ ≤ 300;omega⟩,hT.st,fun _=>hat.2,by show 2 ≤ (K.T t).st → _;omega,hT.on4,hT.on5,hT.on6,hT.on⟩;have h2:=z0t h1 ht hx rfl rfl;unfold Kn.putCx;rw [if_pos t64];refine ⟨{ h2 with tm:=fun u hu=>?_ },?_⟩
  ·show (upd K.tm t r.2.mem u).length = _ ∧ ∀ w ∈ upd K.tm t r.2.mem u,zG w;unfold upd;split
   ·rename_i e;subst e;exact ⟨by rw [hok.2];exact (h.tm u ht).1,hok.1.mem⟩
   ·exact h.tm u hu
  ·show (upd _ _ _ _ : Ts).st = 1;rw [zK];exact hs
 ·rw [g2] at hop;simp at hop
theorem zbT (h : Inv c K) {t : Nat} (r : Rdy c K t) {status : Int} (hs : status = 7 ∨ status = 8) : Inv c (K.left t status):=by
 have hT:=h.T t r.lt;have hx : z8a c t { K.T t with st:=status }:=⟨hT.lev,hT.late,hT.job,hT.rg,hT.at_,by show 0 ≤ status ∧ status ≤ 8;omega,by show status = 0 ∨ status = 1 → _;omega,by show 2 ≤ status → status ≤ 6 → _;omega,by show status = 4 → _;omega,by show status = 5 → _;omega,by show status = 6 → _;omega,hT.on⟩;exact z2f h r hx
theorem z6R (h : Inv c K) {t : Nat} (ht : t < c.ts.length) (hs : (K.T t).st = 1) : Inv c ((((K.paid c t).fwd t).tell c 22 t 0 0).left t 7):=by
 have hT:=h.T t ht;have ha:=hT.at_;have hrun:=hT.run (.inr hs);have hcf:=h.cf.t t ht;have h1:=zU h (zT (z0j (tcg c t).code (K.T t).at_ 37));have hr:=z2B h1 ht hs;have hT1:=h1.T t ht;have hx : z8a c t { (K.paid c t).T t with at_:=((K.paid c t).T t).at_ + 1,st:=7 }:=⟨hT1.lev,hT1.late,hT1.job,hT1.rg,by show 0 ≤ (K.T t).at_ + 1 ∧ (K.T t).at_ + 1 ≤ 300;omega,by simp,by simp,by simp,by simp,by simp,by simp,hT1.on⟩;have g:=zl (z2f h1 hr hx) 22 t 0 0;have e : (((K.paid c t).fwd t).tell c 22 t 0 0).left t 7 = Kn.tell { (K.paid c t).setT t { (K.paid c t).T t with at_:=((K.paid c t).T t).at_ + 1,st:=7 } with R:=z5F (K.paid c t).R t } c 22 t 0 0:=by
  unfold Kn.left Kn.tell
  split
  ·simp [Kn.fwd,Kn.setT]
  ·simp [Kn.fwd,Kn.setT]
 rw [e];exact g
theorem zbx (h : Inv c K) {t : Nat} (ht : t < c.ts.length) (hs : (K.T t).st = 1) (hne : (K.ins c t).op ≠ 37) :
  Inv c ((K.paid c t).fwd t) ∧ z20 c ((K.paid c t).fwd t) t:=by
 have hT:=h.T t ht;have ha:=hT.at_;have hcf:=h.cf.t t ht;have h1:=zU h (zT (z0j (tcg c t).code (K.T t).at_ 37));have hl:=z3H (l:=(tcg c t).code) (a:=(K.T t).at_) (last:=37) ha.1
 rcases hl with ⟨g1,g2,g3⟩ | ⟨_,g2⟩
 ·have hx : z8a c t { K.T t with at_:=(K.T t).at_ + 1 }:=⟨hT.lev,hT.late,hT.job,hT.rg,by have:=hcf.2.2.2.2.2;show 0 ≤ (K.T t).at_ + 1 ∧ (K.T t).at_ + 1 ≤ 300;omega,hT.st,fun _=>by show (K.T t).at_ + 1 ≤ _;omega,by show 2 ≤ (K.T t).st → _;omega,hT.on4,hT.on5,hT.on6,hT.on⟩;refine ⟨z0t h1 ht hx rfl rfl,?_,?_⟩
  ·show (upd _ _ _ _ : Ts).st = 1;rw [zK];exact hs
  ·show 1 ≤ (upd _ _ _ _ : Ts).at_ ∧ (upd _ _ _ _ : Ts).at_ ≤ _;rw [zK];show 1 ≤ (K.T t).at_ + 1 ∧ (K.T t).at_ + 1 ≤ _;omega
 ·unfold Kn.ins at hne;rw [g2] at hne;exact absurd rfl hne
theorem zeZ (h : Inv c K) {t : Nat} (ht : t < c.ts.length) (hs : (K.T t).st = 1) {value : Int} : zH c 1 161 1000 K (K.go c t value):=by
 have hi : zI (K.ins c t):=z0k h.cf ht (h.T t ht).at_.1;have hnt:=h.cf.nt;have hc:=z0s hi;have g0 : zH c 1 0 1000 K (K.paid c t):=z2e (by omega) (by omega);have e : K.go c t value = if (K.ins c t).op ≤ 20 then
   (if (doI (K.ins c t) ((K.paid c t).cx t)).1 = 0 then (K.paid c t).putCx t (doI (K.ins c t) ((K.paid c t).cx t)).2 else (((K.paid c t).putCx t (doI (K.ins c t) ((K.paid c t).cx t)).2).tell c 21 t (doI (K.ins c t) ((K.paid c t).cx t)).1 0).gone c t 8)
  else if (K.ins c t).op = 37 then (((K.paid c t).fwd t).tell c 22 t 0 0).gone c t 7 else ((K.paid c t).fwd t).serveTask c t (K.ins c t) value:=rfl
 rw [e]
 split
 ·rename_i hop
  obtain ⟨h2,h3⟩:=z4G h ht hs hop;have g1:=g0.post (z0Z (who:=t) (doI (K.ins c t) ((K.paid c t).cx t)).2).1 (z0Z (who:=t) (doI (K.ins c t) ((K.paid c t).cx t)).2).2.1 (z0Z (who:=t) (doI (K.ins c t) ((K.paid c t).cx t)).2).2.2
  split
  ·exact g1.le (by omega) (by omega) (by omega)
  ·have h4:=zl h2 21 t (doI (K.ins c t) ((K.paid c t).cx t)).1 0;have hr:=z2B h4 ht (by rw [z01];exact h3);have h5:=zbT h4 hr (status:=8) (.inr rfl);have hsm:=z3x (K.ins c t) ((K.paid c t).cx t);refine ((g1.trans (zu h.cf (kd:=21) (a:=t) (b:=(doI (K.ins c t) ((K.paid c t).cx t)).1) (v:=0) (by decide) (z1s ⟨?_,?_,rfl⟩ (by decide)))).trans (za9 (by omega) h5)).le (by omega) (by omega) (by omega)
   ·simp [shp,win];omega
   ·simp [shp,win];omega
 ·split
  ·have h5:=z6R h ht hs;have g1 : zH c 1 0 1000 K ((K.paid c t).fwd t):=g0.post rfl rfl rfl;refine ((g1.trans (zu h.cf (kd:=22) (a:=t) (b:=0) (v:=0) (by decide) (z1s ⟨?_,rfl,rfl⟩ (by decide)))).trans (za9 (by omega) h5)).le (by omega) (by omega) (by omega);simp [shp,win];omega
  ·rename_i hne
   obtain ⟨h2,h3⟩:=zbx h ht hs hne;have g1 : zH c 1 0 1000 K ((K.paid c t).fwd t):=g0.post rfl rfl rfl;exact (g1.trans (z7U h2 ht h3 hi)).le (by omega) (by omega) (by omega)
theorem z8S (h : Inv c K) {value : Int} : zH c 1 162 1010 K (K.dispatch c value):=by
 have hnt:=h.cf.nt;have hrun:=h.run;unfold Kn.dispatch
 cases hf : z0h K.R with
 | none =>
  dsimp only
  split
  ·exact (z2e (by omega) (by omega) : zH c 1 0 1 K (K.cost 1)).le (by omega) (by omega) (by omega)
  ·rename_i hne
   have g1 : zH c 0 1 0 K (K.tell c 5 255 K.run 0):=by
    refine zu h.cf (by decide) ?_;unfold okN shp win;simp
    rcases hrun with e | e
    ·exact absurd e.symm hne
    ·omega
   have g2 : zH c 10 0 10 (K.tell c 5 255 K.run 0) ((K.tell c 5 255 K.run 0).cost 10):=z2e (by omega) (by omega);exact ((((g1.trans g2).post (K2:={ (K.tell c 5 255 K.run 0).cost 10 with run:=255 }) rfl rfl rfl)).trans (z2e (lo:=1) (m:=1) (x:=1) (by omega) (by omega))).le (by omega) (by omega) (by omega)
 | some t =>
  obtain ⟨l,hl⟩:=z0q hf;obtain ⟨ht,hs⟩:=h.rdy l t hl;dsimp only
  split
  ·exact (zeZ h ht hs).le (by omega) (by omega) (by omega)
  ·rename_i hne
   have g1 : zH c 0 1 0 K (K.tell c 5 t K.run 0):=by
    refine zu h.cf (by decide) ?_;unfold okN shp win;simp
    rcases hrun with e | e
    ·omega
    ·omega
   have g2 : zH c 10 0 10 (K.tell c 5 t K.run 0) ((K.tell c 5 t K.run 0).cost 10):=z2e (by omega) (by omega);have hI : Inv c { (K.tell c 5 t K.run 0).cost 10 with run:=(t : Int) }:={ zU (zl h 5 t K.run 0) 10 with run:=.inr ⟨by show (0 : Int) ≤ t;omega,by show (t : Int) < _;omega⟩ };have g3:=zeZ hI ht (by show ((Kn.tell _ _ _ _ _ _).T t).st = 1;rw [z01];exact hs) (value:=value);exact (((g1.trans g2).post (K2:={ (K.tell c 5 t K.run 0).cost 10 with run:=(t : Int) }) rfl rfl rfl).trans g3).le (by omega) (by omega) (by omega)
abbrev Kn.insL (K : Kn) (c : Cf) (n : Nat) : Ins:=z0j (lcg c n).code K.iat 38
abbrev Kn.paidL (K : Kn) (c : Cf) (n : Nat) : Kn:=K.cost (zT (K.insL c n))
theorem z7I (h : Inv c K) {n : Nat} (ha : K.ln.active = n) (hn : n < c.ls.length) (hop : (K.insL c n).op ≤ 20) :
  Inv c ((K.paidL c n).putCx (64 + n) (doI (K.insL c n) ((K.paidL c n).cx (64 + n))).2):=by
 have hi:=z1k h.cf hn h.iat.1;have hl:=z3H (l:=(lcg c n).code) (a:=K.iat) (last:=38) h.iat.1;have hcf:=h.cf.l _ hn;have h1:=zU h (zT (z0j (lcg c n).code K.iat 38));have n64 : ¬ 64 + n < 64:=by omega
 have e64 : 64 + n - 64 = n:=by omega
 unfold Kn.paidL Kn.insL at *
 rcases hl with ⟨g1,g2,g3⟩ | ⟨_,g2⟩
 ·have hck:=(h.cf.lc n hn _ g3).1;have hcx : (K.cost (zT (z0j (lcg c n).code K.iat 38))).cx (64 + n) = ⟨K.iat,K.irg,K.mems n⟩:=by unfold Kn.cx;rw [if_neg n64,e64];rfl
  rw [hcx];have hok:=z6N hi (x:=⟨K.iat,K.irg,K.mems n⟩) ⟨h.irg,(h.mems n hn).2⟩;have hat:=zcI hi (x:=⟨K.iat,K.irg,K.mems n⟩) (n:=(lcg c n).code.length) h.iat.1 g1 (fun e=>by rw [g2] at e ⊢;exact z40 hck e);generalize doI (z0j (lcg c n).code K.iat 38) ⟨K.iat,K.irg,K.mems n⟩ = r at hok hat;unfold Kn.putCx;rw [if_neg n64];refine { h1 with mems:=fun u hu=>?_,irg:=hok.1.rg,iat:=⟨hat.1,?_⟩,act:=.inr ⟨by show 0 ≤ K.ln.active;omega,by show K.ln.active < _;omega,?_⟩ }
  ·show (upd K.mems (64 + n - 64) r.2.mem u).length = _ ∧ ∀ w ∈ upd K.mems (64 + n - 64) r.2.mem u,zG w;rw [e64];unfold upd;split
   ·rename_i e;subst e;exact ⟨by rw [hok.2];exact (h.mems u hu).1,hok.1.mem⟩
   ·exact h.mems u hu
  ·have:=hat.2;show r.2.at_ ≤ 300;omega
  ·show r.2.at_ ≤ ((lcg c K.ln.active.toNat).code.length : Int);rw [ha,Int.toNat_natCast];exact hat.2
 ·rw [g2] at hop;simp at hop
theorem z8z (h : Inv c K) {n : Nat} (ha : K.ln.active = n) (hn : n < c.ls.length) (hne : (K.insL c n).op ≠ 38) :
  Inv c { K.paidL c n with iat:=K.iat + 1 } ∧ ((K.insL c n).op = 27 ∨ (K.insL c n).op = 28 → (K.insL c n).d = 1):=by
 have hl:=z3H (l:=(lcg c n).code) (a:=K.iat) (last:=38) h.iat.1;have hcf:=h.cf.l _ hn;have h1:=zU h (zT (z0j (lcg c n).code K.iat 38))
 rcases hl with ⟨g1,g2,g3⟩ | ⟨_,g2⟩
 ·have hck:=(h.cf.lc n hn _ g3).1;refine ⟨{ h1 with iat:=⟨by have:=h.iat.1;show 0 ≤ K.iat + 1;omega,by show K.iat + 1 ≤ 300;omega⟩,act:=.inr ⟨by show 0 ≤ K.ln.active;omega,by show K.ln.active < _;omega,by show K.iat + 1 ≤ ((lcg c K.ln.active.toNat).code.length : Int);rw [ha,Int.toNat_natCast];omega⟩ },fun e=>?_⟩;have hm:=z4D hck;unfold Kn.insL at *;rw [← g2] at hm;unfold may at hm;rw [if_neg hne] at hm
  simpa [e] using hm
 ·unfold Kn.insL at hne;rw [g2] at hne;exact absurd rfl hne
theorem zdK (h : Inv c K) {n : Nat} (ha : K.ln.active = n) (hn : n < c.ls.length) {value : Int} : zH c 1 162 1010 K (K.serve c n value) := by
  have hi : zI (K.insL c n) := z1k h.cf hn h.iat.1;have hnl := h.cf.nl;have hc := z0s hi;have g0 : zH c 1 0 1000 K (K.paidL c n) := z2e (by omega) (by omega);have e : K.serve c n value = if (K.insL c n).op ≤ 20 then
      (if (doI (K.insL c n) ((K.paidL c n).cx (64 + n))).1 = 0 then (K.paidL c n).putCx (64 + n) (doI (K.insL c n) ((K.paidL c n).cx (64 + n))).2
       else { ({ ((K.paidL c n).putCx (64 + n) (doI (K.insL c n) ((K.paidL c n).cx (64 + n))).2).tell c 21 (64 + n) (doI (K.insL c n) ((K.paidL c n).cx (64 + n))).1 0 with ln := (((K.paidL c n).putCx (64 + n) (doI (K.insL c n) ((K.paidL c n).cx (64 + n))).2).tell c 21 (64 + n) (doI (K.insL c n) ((K.paidL c n).cx (64 + n))).1 0).ln.bar n } : Kn).tell c 4 n 0 0 with ln := (({ ((K.paidL c n).putCx (64 + n) (doI (K.insL c n) ((K.paidL c n).cx (64 + n))).2).tell c 21 (64 + n) (doI (K.insL c n) ((K.paidL c n).cx (64 + n))).1 0 with ln := (((K.paidL c n).putCx (64 + n) (doI (K.insL c n) ((K.paidL c n).cx (64 + n))).2).tell c 21 (64 + n) (doI (K.insL c n) ((K.paidL c n).cx (64 + n))).1 0).ln.bar n } : Kn).tell c 4 n 0 0).ln.leave })
    else if (K.insL c n).op = 38 then { (K.paidL c n).tell c 4 n 0 0 with ln := ((K.paidL c n).tell c 4 n 0 0).ln.leave } else Kn.shared { K.paidL c n with iat := K.iat + 1 } c (64 + n) (K.insL c n) value := rfl
  rw [e];have g4 : ∀ K1 : Kn, zH c 0 1 0 K1 (K1.tell c 4 n 0 0) := fun K1 => zu h.cf (by decide) (z1s ⟨by simp [shp, win]; omega, rfl, rfl⟩ (by decide))
  split
  · rename_i hop
    have g1 := g0.post (z0Z (who := 64 + n) (doI (K.insL c n) ((K.paidL c n).cx (64 + n))).2).1 (z0Z (who := 64 + n) (doI (K.insL c n) ((K.paidL c n).cx (64 + n))).2).2.1 (z0Z (who := 64 + n) (doI (K.insL c n) ((K.paidL c n).cx (64 + n))).2).2.2;generalize (K.paidL c n).putCx (64 + n) (doI (K.insL c n) ((K.paidL c n).cx (64 + n))).2 = K2 at g1 ⊢
    split
    · exact g1.le (by omega) (by omega) (by omega)
    · have hsm := z3x (K.insL c n) ((K.paidL c n).cx (64 + n))
      generalize (doI (K.insL c n) ((K.paidL c n).cx (64 + n))).1 = er at hsm ⊢;have g2 := g1.trans (lo' := 0) (n' := 1) (m' := 0) (zu h.cf (kd := 21) (a := 64 + n) (b := er) (v := 0) (by decide) (z1s ⟨by simp [shp, win]; omega, by simp [shp, win]; omega, rfl⟩ (by decide)));have g3 := (g2.post (K2 := { K2.tell c 21 (64 + n) er 0 with ln := (K2.tell c 21 (64 + n) er 0).ln.bar n }) rfl rfl rfl).trans (g4 _);exact zH.ql g3 rfl rfl rfl (by omega) (by omega) (by omega)
  · split
    · exact zH.ql (g0.trans (g4 _)) rfl rfl rfl (by omega) (by omega) (by omega)
    · rename_i hne
      obtain ⟨h2, h3⟩ := z8z h ha hn hne;have g1 : zH c 1 0 1000 K { K.paidL c n with iat := K.iat + 1 } := g0.post rfl rfl rfl;exact (g1.trans (z6U h2 (.inr ⟨by omega, by omega⟩) (fun a => by omega) hi (fun _ => h3))).le (by omega) (by omega) (by omega)
theorem zcS (h : Inv c K) (hz : K.stopped = false) {value : Int} : zH c 1 162 1010 K (K.act c value):=by
 unfold Kn.act;rw [if_neg (by rw [hz];decide)]
 split
 ·rename_i ha
  obtain ⟨a1,a2,_⟩:=h.act.resolve_left ha;exact zdK h (by omega) (by omega)
 split
 ·rename_i hr
  have hr' : K.ln.active = 255 ∧ K.ln.pending &&& K.ln.mask ≠ 0:=by unfold Ln.ready at hr;simpa using hr
  have hsm : K.ln.pending &&& K.ln.mask < 2 ^ c.ls.length:=z3w h.msk;have hnl:=h.cf.nl;have hlow : low (K.ln.pending &&& K.ln.mask) < c.ls.length:=zfL hr'.2 hsm (by omega);have he : K.ln.enter.active = low (K.ln.pending &&& K.ln.mask):=by unfold Ln.enter;rw [if_pos hr]
  have g1 : zH c 0 1 0 K ({ K with ln:=K.ln.enter }.tell c 3 K.ln.enter.active 0 0):=by
   refine zH.pre (zu h.cf (by decide) (z1s ⟨?_,rfl,rfl⟩ (by decide))) rfl rfl rfl;rw [he];simp [shp,win];omega
  have g2 : zH c 6 0 6 ({ K with ln:=K.ln.enter }.tell c 3 K.ln.enter.active 0 0) (({ K with ln:=K.ln.enter }.tell c 3 K.ln.enter.active 0 0).cost 6):=z2e (by omega) (by omega);exact zH.ql (g1.trans g2) rfl rfl rfl (by omega) (by omega) (by omega)
 ·exact z8S h
noncomputable def Kn.evs (K : Kn) (c : Cf) (bits : Nat) (value : Int) : List Ev:=(K.tick c).told ++ (((K.tick c).take.raise c bits).told ++ (((((K.tick c).take.raise c bits).take).act c value).told))
end
structure Ft where
 err : Int
 part : Int
 index : Int
 at_ : Int
deriving DecidableEq
abbrev ft0 : Ft:=⟨0,0,0,0⟩
def inR (n lo hi : Int) : Bool:=decide (lo ≤ n ∧ n ≤ hi)
def z1X (p : Nat → Bool) (n : Nat) : Option Nat:=(List.range n).find? p
theorem z2x {p : Nat → Bool} {n : Nat} (h : z1X p n = none) : ∀ k,k < n → p k = false:=fun k hk=>by
 unfold z1X at h;rw [List.find?_eq_none] at h;have:=h k (List.mem_range.2 hk)
 simpa using this
theorem z38 {p : Nat → Bool} {n : Nat} (h : ∀ k,k < n → p k = false) : z1X p n = none:=z3z h
theorem z2y {p : Nat → Bool} {n k : Nat} (h1 : k < n) (h2 : p k = true) (h3 : ∀ j,j < k → p j = false) : z1X p n = some k:=z26 h1 h2 h3
def z1V (l : List Ins) (isr : Bool) (k : Nat) : Bool:=decide (z1y (zM l k) l.length isr ≠ 0)
def z5f (l : List Ins) (isr : Bool) (part index at_ : Int) : Ft :=
 if 256 < l.length then ⟨4,part,index,at_⟩
 else match z1X (z1V l isr) l.length with
  | none=>ft0
  | some k=>⟨z1y (zM l k) l.length isr,part,index,at_ + 1 + k⟩
def z53 (t : Tc) (i : Int) : Ft :=
 if ¬ inR t.lev 0 31 then ⟨5,1,i,1⟩
 else if ¬ inR t.off 1 1073741824 then ⟨5,1,i,2⟩
 else if ¬ inR t.per 0 1073741824 then ⟨5,1,i,3⟩
 else if ¬ inR t.dl 0 1073741824 then ⟨5,1,i,4⟩
 else if ¬ inR t.mem 0 256 then ⟨5,1,i,5⟩
 else z5f t.code false 1 i 6
def z6a (l : Lc) (i : Int) : Ft :=
 if ¬ inR l.mem 0 256 then ⟨5,2,i,1⟩ else z5f l.code true 2 i 2
def z5K (c : Cf) (k : Nat) : Bool:=decide ((z53 (tcg c k) k).err ≠ 0)
def z5t (c : Cf) (k : Nat) : Bool:=decide ((z6a (lcg c k) k).err ≠ 0)
def z3I (c : Cf) : Ft :=
 if 16 < c.ls.length then ⟨4,2,0,0⟩
 else match z1X (z5t c) c.ls.length with
  | some k=>z6a (lcg c k) k
  | none=>ft0
def z0R (c : Cf) : Ft :=
 if 64 < c.ts.length then ⟨4,1,0,0⟩
 else match z1X (z5K c) c.ts.length with
  | some k=>z53 (tcg c k) k
  | none=>z3I c
def z4j (l : List Int) (lo hi : Int) (k : Nat) : Bool:=!inR (lg l k) lo hi
def z84 (l : List Int) (part lo hi : Int) : Ft :=
 if 32 < l.length then ⟨4,part,0,0⟩
 else match z1X (z4j l lo hi) l.length with
  | none=>ft0
  | some k=>⟨5,part,k,1⟩
def z8u (ok : Bool) (part : Int) : Ft:=if ok then ft0 else ⟨5,part,0,0⟩
def z86 (a b : Ft) : Ft:=if a.err = 0 then b else a
def z5T (c : Cf) : Bool:=decide (c.mask >>> min c.ls.length 16 = 0)
def z5g (c : Cf) : Ft :=
 z86 (z86 (z86 (z86 (z86 (z86 (z86 (z0R c) (z8u (inR c.mutexes 0 32) 3)) (z84 c.sems 4 0 255)) (z84 c.queues 5 1 64)) (z84 c.timers 6 0 (c.sems.length - 1))) (z8u (inR c.table 0 64) 7)) (z8u (z5T c) 8)) (z8u (inR c.charge 0 64) 9)
structure z6B (c : Cf) : Prop where
 tk : ∀ t,t < c.ts.length → ∀ i ∈ (tcg c t).code,zG i.k
 lk : ∀ t,t < c.ls.length → ∀ i ∈ (lcg c t).code,zG i.k
 mask : c.mask < 4294967296
 filter : c.filter < 4294967296
 cyc : 0 ≤ c.cycle ∧ c.cycle < 18446744073709551616
 cnt : 0 ≤ c.count ∧ c.count < 18446744073709551616
theorem z2o {a b : Ft} (h : (z86 a b).err = 0) : a.err = 0 ∧ b.err = 0:=by
 unfold z86 at h
 split at h
 ·rename_i e;exact ⟨e,h⟩
 ·rename_i e;exact absurd h e
theorem z4g {n lo hi : Int} (h : inR n lo hi = true) : lo ≤ n ∧ n ≤ hi:=of_decide_eq_true h
theorem z9n {z : Bool} {p : Int} (h : (z8u z p).err = 0) : z = true:=by
 unfold z8u at h;cases z
 ·simp at h
 ·rfl
theorem zci {l : List Int} {p lo hi : Int} (h : (z84 l p lo hi).err = 0) : l.length ≤ 32 ∧ ∀ x ∈ l,lo ≤ x ∧ x ≤ hi:=by
 unfold z84 at h
 split at h
 ·exact absurd h (by simp)
 ·rename_i e
  cases f : z1X (z4j l lo hi) l.length with
  | some k=>rw [f] at h;exact absurd h (by simp)
  | none =>
   refine ⟨by omega,fun x hx=>?_⟩;obtain ⟨k,hk,rfl⟩:=List.getElem_of_mem hx;have:=z2x f k hk;unfold z4j at this;have h2 : lg l k = l[k]:=by unfold lg;simp [List.getD,hk]
   rw [h2] at this;exact z4g (by simpa using this)
theorem zcE {l : List Ins} {isr : Bool} {p i a : Int} (h : (z5f l isr p i a).err = 0) : l.length ≤ 256 ∧ ∀ x ∈ l,z1y x l.length isr = 0:=by
 unfold z5f at h
 split at h
 ·exact absurd h (by simp)
 ·rename_i e
  cases f : z1X (z1V l isr) l.length with
  | some k =>
   rw [f] at h;have hb : z1V l isr k = true:=by
    have:=z0m (f : (List.range l.length).find? (z1V l isr) = some k);exact this.2.1
   exact absurd h (of_decide_eq_true hb)
  | none =>
   refine ⟨by omega,fun x hx=>?_⟩;obtain ⟨k,hk,rfl⟩:=List.getElem_of_mem hx;have:=z2x f k hk;unfold z1V at this;have h2 : zM l (k : Int) = l[k]:=by unfold zM;simp [List.getD,hk]
   rw [h2] at this;exact Classical.not_not.1 (of_decide_eq_false this)
theorem zdr {t : Tc} {i : Int} (h : (z53 t i).err = 0) : (0 ≤ t.lev ∧ t.lev < 32) ∧ (1 ≤ t.off ∧ t.off ≤ 1073741824) ∧ (0 ≤ t.per ∧ t.per ≤ 1073741824) ∧ (0 ≤ t.dl ∧ t.dl ≤ 1073741824) ∧ (0 ≤ t.mem ∧ t.mem ≤ 256) ∧ t.code.length ≤ 256 ∧ ∀ x ∈ t.code,z1y x t.code.length false = 0:=by
 unfold z53 at h
 split at h
 ·exact absurd h (by simp)
 split at h
 ·exact absurd h (by simp)
 split at h
 ·exact absurd h (by simp)
 split at h
 ·exact absurd h (by simp)
 split at h
 ·exact absurd h (by simp)
 rename_i h1 h2 h3 h4 h5
 have a1:=z4g (Classical.not_not.1 h1);have a2:=z4g (Classical.not_not.1 h2);have a3:=z4g (Classical.not_not.1 h3);have a4:=z4g (Classical.not_not.1 h4);have a5:=z4g (Classical.not_not.1 h5);have a6:=zcE h;exact ⟨⟨a1.1,by omega⟩,a2,a3,a4,a5,a6⟩
theorem zfD {c : Cf} (h : (z3I c).err = 0) : c.ls.length ≤ 16 ∧ ∀ n,n < c.ls.length → (0 ≤ (lcg c n).mem ∧ (lcg c n).mem ≤ 256) ∧ (lcg c n).code.length ≤ 256 ∧ ∀ x ∈ (lcg c n).code,z1y x (lcg c n).code.length true = 0:=by
 unfold z3I at h
 split at h
 ·exact absurd h (by simp)
 ·rename_i e
  cases f : z1X (z5t c) c.ls.length with
  | some k =>
   rw [f] at h;have:=z0m (f : (List.range c.ls.length).find? (z5t c) = some k);exact absurd h (of_decide_eq_true this.2.1)
  | none =>
   refine ⟨by omega,fun n hn=>?_⟩;have h1:=Classical.not_not.1 (of_decide_eq_false (z2x f n hn));unfold z6a at h1
   split at h1
   ·exact absurd h1 (by simp)
   ·rename_i h2
    exact ⟨z4g (Classical.not_not.1 h2),zcE h1⟩
theorem zaQ {c : Cf} (h : (z0R c).err = 0) : c.ts.length ≤ 64 ∧ (∀ t,t < c.ts.length → (z53 (tcg c t) t).err = 0) ∧ (z3I c).err = 0:=by
 unfold z0R at h
 split at h
 ·exact absurd h (by simp)
 ·rename_i e
  cases f : z1X (z5K c) c.ts.length with
  | some k =>
   rw [f] at h;have:=z0m (f : (List.range c.ts.length).find? (z5K c) = some k);exact absurd h (of_decide_eq_true this.2.1)
  | none =>
   rw [f] at h;exact ⟨by omega,fun t ht=>Classical.not_not.1 (of_decide_eq_false (z2x f t ht)),h⟩
theorem z4E {c : Cf} (r : z6B c) (h : (z5g c).err = 0) : z7T c:=by
 unfold z5g at h;obtain ⟨h,h9⟩:=z2o h;obtain ⟨h,h8⟩:=z2o h;obtain ⟨h,h7⟩:=z2o h;obtain ⟨h,h6⟩:=z2o h;obtain ⟨h,h5⟩:=z2o h;obtain ⟨h,h4⟩:=z2o h;obtain ⟨h,h3⟩:=z2o h;obtain ⟨h1,h2,h0⟩:=zaQ h;obtain ⟨l1,l2⟩:=zfD h0;have m3:=z4g (z9n h3);have m4:=zci h4;have m5:=zci h5;have m6:=zci h6;have m7:=z4g (z9n h7);have m8 : c.mask >>> min c.ls.length 16 = 0:=of_decide_eq_true (z9n h8);have m9:=z4g (z9n h9);rw [Nat.min_eq_left l1] at m8;refine ⟨h1,l1,fun t ht=>?_,fun t ht i hi=>?_,fun n hn=>?_,fun n hn i hi=>?_,m3,m4.1,m4.2,m5.1,m5.2,m6.1,fun x hx=>?_,m7,?_,r.filter,m9,r.cyc,r.cnt⟩
 ·obtain ⟨a1,a2,a3,a4,a5,a6,_⟩:=zdr (h2 t ht);exact ⟨a1,a2,a3,a4,a5,a6⟩
 ·obtain ⟨_,_,_,_,_,_,a7⟩:=zdr (h2 t ht);exact ⟨a7 i hi,r.tk t ht i hi⟩
 ·obtain ⟨a1,a2,_⟩:=l2 n hn;exact ⟨a1,a2⟩
 ·obtain ⟨_,_,a3⟩:=l2 n hn;exact ⟨a3 i hi,r.lk n hn i hi⟩
 ·have:=m6.2 x hx;exact ⟨this.1,by omega⟩
 ·rw [Nat.shiftRight_eq_div_pow] at m8;exact Nat.lt_of_not_le fun hle=>by have:=Nat.div_pos hle (Nat.two_pow_pos _);omega
def aCf : Cf:=⟨[⟨0,1,0,0,0,[⟨31,0,0,0,0,0⟩,⟨37,0,0,0,0,0⟩]⟩],[],1,[],[],[],0,0,4294967295,0,0,0⟩
theorem zj1 : (z5g aCf).err = 0:=by kernel_rfl
noncomputable def aK1 : Kn:=(z34 aCf).step aCf 0 0
noncomputable def aK2 : Kn:=aK1.step aCf 0 0
noncomputable def aK3 : Kn:=aK2.step aCf 0 0
theorem aE1 : (z34 aCf).evs aCf 0 0 = [⟨6,0,1,0,0,1⟩,⟨5,0,1,0,255,0⟩,⟨12,22,1,0,0,0⟩]:=by kernel_rfl
theorem aE2 : aK1.evs aCf 0 0 = [⟨22,34,2,0,0,0⟩,⟨13,34,2,0,0,0⟩]:=by kernel_rfl
theorem aE3 : aK2.evs aCf 0 0 = [⟨5,34,3,255,0,0⟩]:=by kernel_rfl
theorem aT3 : (aK3.T 0).st = 7:=by kernel_rfl
end Go.Proofs.YthcfimbidmogkaaGreatDoor
namespace Go.Sx
open Go.RowKit
theorem z2d (a b : Nat) (ha : a < 4294967296) (hb : b < 4294967296) : bits .or .u32 (a : Int) (b : Int) = ((a ||| b : Nat) : Int):=by
 have hx : a ||| b < 2 ^ 32:=Nat.or_lt_two_pow (by omega) (by omega)
 have h1 : (BitVec.ofInt 32 (a : Int)).toNat = a:=by
  rw [BitVec.ofInt_natCast,BitVec.toNat_ofNat];exact Nat.mod_eq_of_lt (by omega)
 have h2 : (BitVec.ofInt 32 (b : Int)).toNat = b:=by
  rw [BitVec.ofInt_natCast,BitVec.toNat_ofNat];exact Nat.mod_eq_of_lt (by omega)
 show IntKind.u32.wrap ((BitVec.ofInt 32 (a : Int) ||| BitVec.ofInt 32 (b : Int)).toNat : Int) = _;rw [BitVec.toNat_or,h1,h2,Go.Proofs.wrap_u32'];omega
theorem z66 (a b : Nat) (ha : a < 4294967296) (hb : b < 4294967296) : bits .xor .u32 (a : Int) (b : Int) = ((a ^^^ b : Nat) : Int):=by
 have hx : a ^^^ b < 2 ^ 32:=Nat.xor_lt_two_pow (by omega) (by omega);have h1 : (BitVec.ofInt 32 (a : Int)).toNat = a:=by
  rw [BitVec.ofInt_natCast,BitVec.toNat_ofNat];exact Nat.mod_eq_of_lt (by omega)
 have h2 : (BitVec.ofInt 32 (b : Int)).toNat = b:=by
  rw [BitVec.ofInt_natCast,BitVec.toNat_ofNat];exact Nat.mod_eq_of_lt (by omega)
 show IntKind.u32.wrap ((BitVec.ofInt 32 (a : Int) ^^^ BitVec.ofInt 32 (b : Int)).toNat : Int) = _;rw [BitVec.toNat_xor,h1,h2,Go.Proofs.wrap_u32'];omega
theorem z1c (a l : Nat) (ha : a < 4294967296) (hl : l < 32) : bits .andNot .u32 (a : Int) ((2 ^ l : Nat) : Int) = ((a &&& (4294967295 - 2 ^ l) : Nat) : Int):=by
 have hb : 2 ^ l < 4294967296:=Nat.pow_lt_pow_right (by omega) (show l < 32 from hl);have h1 : (BitVec.ofInt 32 (a : Int)).toNat = a:=by
  rw [BitVec.ofInt_natCast,BitVec.toNat_ofNat];exact Nat.mod_eq_of_lt (by omega)
 have h2 : (BitVec.ofInt 32 ((2 ^ l : Nat) : Int)).toNat = 2 ^ l:=by
  rw [BitVec.ofInt_natCast,BitVec.toNat_ofNat];exact Nat.mod_eq_of_lt (by omega)
 have h3 : a &&& (4294967295 - 2 ^ l) < 4294967296:=Nat.lt_of_le_of_lt Nat.and_le_left ha;show IntKind.u32.wrap ((BitVec.ofInt 32 (a : Int) &&& ~~~ BitVec.ofInt 32 ((2 ^ l : Nat) : Int)).toNat : Int) = _;rw [BitVec.toNat_and,BitVec.toNat_not,h1,h2,Go.Proofs.wrap_u32'];rw [show 2 ^ 32 - 1 - 2 ^ l = 4294967295 - 2 ^ l by omega];omega
theorem z9S (n l : Nat) : (n : Int) / 2 ^ l = ((n / 2 ^ l : Nat) : Int):=by
 rw [Int.natCast_ediv,Int.natCast_pow];rfl
theorem z5d (n l : Nat) (hn : n < 4294967296) : bits .and .u32 ((n : Int) / 2 ^ l) 1 = if n.testBit l then 1 else 0:=by
 rw [z9S];have h1 : n / 2 ^ l < 4294967296:=Nat.lt_of_le_of_lt (Nat.div_le_self _ _) hn;have h2:=Go.Proofs.bits_and_u32_nat (n / 2 ^ l) 1 h1 (by decide);rw [show ((1 : Nat) : Int) = 1 from rfl] at h2;rw [h2,Nat.and_one_is_mod,Nat.testBit_eq_decide_div_mod_eq]
 rcases Nat.mod_two_eq_zero_or_one (n / 2 ^ l) with e | e <;> simp [e]
theorem zcA {n l : Nat} (hn : n < 4294967296) (h : n.testBit l = false) : (bits .and .u32 ((n : Int) / 2 ^ l) 1 == 0) = true:=by
 rw [z5d n l hn,h];rfl
theorem zcC {n l : Nat} (hn : n < 4294967296) (h : n.testBit l = true) : (bits .and .u32 ((n : Int) / 2 ^ l) 1 == 0) = false:=by
 rw [z5d n l hn,h];rfl
theorem zeG {n l : Nat} (hn : n < 4294967296) (h : n.testBit l = true) : (bits .and .u32 ((n : Int) / 2 ^ l) 1 == 1) = true:=by
 rw [z5d n l hn,h];rfl
theorem zcB {n l : Nat} (hn : n < 4294967296) (h : n.testBit l = false) : (bits .and .u32 ((n : Int) / 2 ^ l) 1 == 1) = false:=by
 rw [z5d n l hn,h];rfl
theorem zgn {x y : Bool} (h : x = y) : Ending.returned (.bool x) = Ending.returned (.bool y):=by rw [h]
end Go.Sx
namespace Go.Proofs.YthcfimbidmogkaaGreatDoor
open Go.RowKit Go.Sx
abbrev z22 (i : Ins) : Value:=.agg #[.int .i64 i.op,.int .i64 i.a,.int .i64 i.b,.int .i64 i.c,.int .i64 i.d,.int .u32 i.k]
theorem zi7 {op : Int} (h : 1 ≤ op ∧ op ≤ 38) : op = 1 ∨ op = 2 ∨ op = 3 ∨ op = 4 ∨ op = 5 ∨ op = 6 ∨ op = 7 ∨ op = 8 ∨ op = 9 ∨ op = 10 ∨ op = 11 ∨ op = 12 ∨ op = 13 ∨ op = 14 ∨ op = 15 ∨ op = 16 ∨ op = 17 ∨ op = 18 ∨ op = 19 ∨ op = 20 ∨ op = 21 ∨ op = 22 ∨ op = 23 ∨ op = 24 ∨ op = 25 ∨ op = 26 ∨ op = 27 ∨ op = 28 ∨ op = 29 ∨ op = 30 ∨ op = 31 ∨ op = 32 ∨ op = 33 ∨ op = 34 ∨ op = 35 ∨ op = 36 ∨ op = 37 ∨ op = 38:=by omega
theorem zka (op : Int) (w : World) : Calls Tryz.prog 233 #[.int .i64 op] w fun e w'=>e = .returned (.int .i64 (z0x op : Nat)) ∧ w = w':=by
 by_cases h : 1 ≤ op ∧ op ≤ 38
 ·rcases zi7 h with rfl | rfl | rfl | rfl | rfl | rfl | rfl | rfl | rfl | rfl | rfl | rfl | rfl | rfl | rfl | rfl | rfl | rfl | rfl | rfl | rfl | rfl | rfl | rfl | rfl | rfl | rfl | rfl | rfl | rfl | rfl | rfl | rfl | rfl | rfl | rfl | rfl | rfl
  all_goals
   clear h
   go_enter Tryz.func233,Tryz.ntmps233
   go_wp2;go_ret;exact ⟨rfl,rfl⟩
 ·have hu : z0x op = 0:=by unfold z0x;repeat rw [if_neg (by omega)]
  rw [hu];clear hu
  go_enter Tryz.func233,Tryz.ntmps233
  go_wp2
  all_goals
   go_ret;exact ⟨rfl,rfl⟩
theorem zaZ {fn : Func} {t0 t1 t2 t3 t4 : Tmp} (h : fn.results = #[.tmp t0,.tmp t1,.tmp t2,.tmp t3,.tmp t4]) (tmps : Array Value) (P : Program) (w : World) :
  (results fn tmps).run P w = .ok (.tuple #[tmps.getD t0 undef,tmps.getD t1 undef,tmps.getD t2 undef,tmps.getD t3 undef,tmps.getD t4 undef]) w:=by
 simp [results,h]
theorem zeu (op : Int) : z0x op = 17 ∨ z0x op = 3 ∨ z0x op = 19 ∨ z0x op = 16 ∨ z0x op = 1 ∨ z0x op = 31 ∨ z0x op = 21 ∨ z0x op = 29 ∨ z0x op = 5 ∨ z0x op = 7 ∨ z0x op = 0:=by
 unfold z0x;repeat' split
 all_goals simp
theorem zhv (op : Int) (w : World) : Calls Tryz.prog 213 #[.int .i64 op] w fun e w'=>e = .returned (.tuple #[.bool ((z0x op).testBit 0),.bool ((z0x op).testBit 1),.bool ((z0x op).testBit 2),.bool ((z0x op).testBit 3),.bool ((z0x op).testBit 4)]) ∧ w = w':=by
 have hc:=zka op w;have hu:=zeu op;generalize z0x op = u at hc hu ⊢
 rcases hu with rfl | rfl | rfl | rfl | rfl | rfl | rfl | rfl | rfl | rfl | rfl
 all_goals
  go_enter Tryz.func213,Tryz.ntmps213
  go_wp2_with fail;refine hc.mono ?_;rintro e w' ⟨rfl,rfl⟩;go_wp2
  (try simp only [Exit.inBlock,Exit.then]);refine bodyPost_ret (zaZ rfl _ _ _) rfl ?_
  exact ⟨rfl,rfl⟩
theorem zff (n : Int) (has : Bool) (w : World) : Calls Tryz.prog 214 #[.int .i64 n,.bool has] w fun e w'=>e = .returned (.bool (z83 n has)) ∧ w = w':=by
 unfold z83
 cases has
 all_goals
  go_enter Tryz.func214,Tryz.ntmps214
  go_wp2
  all_goals
   go_ret;exact ⟨zgn (by rw [Bool.eq_iff_iff];simp;try omega),rfl⟩
theorem zm3 (op : Int) (z : Bool) (hz : zlk op = z) (w : World) : Calls Tryz.prog 212 #[.int .i64 op] w fun e w'=>e = .returned (.bool z) ∧ w = w':=by
 subst hz;unfold zlk
 go_enter Tryz.func212,Tryz.ntmps212
 go_wp2
 all_goals
  go_ret;exact ⟨zgn (by rw [Bool.eq_iff_iff];simp;try omega),rfl⟩
theorem zak (op a b c d k : Int) (B0 B1 B2 B3 B4 : Bool) (hb : B0 = (z0x op).testBit 0 ∧ B1 = (z0x op).testBit 1 ∧ B2 = (z0x op).testBit 2 ∧ B3 = (z0x op).testBit 3 ∧ B4 = (z0x op).testBit 4) (r1 r2 r3 : Bool)
  (h1 : z83 a B0 = r1) (h2 : z83 b B1 = r2) (h3 : z83 c (B2 && (!B3 || decide (d = 2))) = r3) (hop : zlk op = true) (z : Int) (hz : (if r1 && (r2 && (r3 && (decide (0 ≤ d ∧ d ≤ 2) && ((B3 || decide (d = 0)) && ((B4 || decide (k = 0)) && (if op = 20 then decide (1 ≤ k ∧ k ≤ 1000) else if op = 21 ∨ op = 22 then decide (k < 16) else true)))))) then (0 : Int) else 5) = z) (w0 w : World) (P : HP) (hs : Sat w0 w P) :
  Calls Tryz.prog 172 #[z22 ⟨op,a,b,c,d,k⟩] w (zp w0 (.int .i64 z) P):=by
 have hU : ∀ wx,Hid (Calls Tryz.prog 213 #[.int .i64 op] wx fun e w'=>e = .returned (.tuple #[.bool B0,.bool B1,.bool B2,.bool B3,.bool B4]) ∧ wx = w'):=fun wx=>by
  obtain ⟨rfl,rfl,rfl,rfl,rfl⟩:=hb;exact zhv op wx
 clear hb;have hI:=hid (fun wx=>zm3 op true hop wx);have H1:=hid (fun wx=>zff a B0 wx);have H2:=hid (fun wx=>zff b B1 wx);have H3:=hid (fun x wx=>zff c x wx);rw [h1] at H1;rw [h2] at H2;have H3x:=hid h3;have Hz:=hid hz;clear hop h1 h2 h3 hz
 go_enter Tryz.func172,Tryz.ntmps172
 go_wp2_with fail;refine (hI.out _).mono ?_;rintro en w1 ⟨rfl,rfl⟩;go_wp2_with fail;refine (hU _).out.mono ?_;rintro en w1 ⟨rfl,rfl⟩;go_wp2_with fail;refine (H1.out _).mono ?_;rintro en w1 ⟨rfl,rfl⟩
 cases r1
 ·go_wp2_with fail
  all_goals (go_ret;refine ⟨?_,z3⟩;rw [← Hz.out]; (try congr 2);try (first | rfl | (simp_all;done) | (simp_all;omega) | (simp;omega)))
 go_wp2_with fail;refine (H2.out _).mono ?_;rintro en w1 ⟨rfl,rfl⟩
 cases r2
 ·go_wp2_with fail
  all_goals (go_ret;refine ⟨?_,z3⟩;rw [← Hz.out]; (try congr 2);try (first | rfl | (simp_all;done) | (simp_all;omega) | (simp;omega)))
 cases B2 <;> cases B3 <;> by_cases hd : d = 2
 all_goals
  first | (have hd2 : (d == 2) = true:=by simp [hd]) | (have hd2 : (d == 2) = false:=by simp [hd])
  simp only [hd,decide_true,decide_false,Bool.not_true,Bool.not_false,Bool.true_or,Bool.false_or,Bool.and_true,Bool.and_false,Bool.true_and,Bool.false_and] at H3x;go_wp2_with fail;refine (H3.out _ _).mono ?_;rintro en w1 ⟨rfl,rfl⟩;rw [H3x.out]
  cases r3
 all_goals
  go_wp2_with fail
  all_goals (go_ret;refine ⟨?_,z3⟩;rw [← Hz.out]; (try congr 2);try (first | rfl | (simp_all;done) | (simp_all;omega) | (simp;omega)))
theorem z72 (i : Ins) (z : Int) (hz : z2K i = z) (w0 w : World) (P : HP) (hs : Sat w0 w P) : Calls Tryz.prog 172 #[z22 i] w (zp w0 (.int .i64 z) P):=by
 obtain ⟨op,a,b,c,d,k⟩:=i
 cases h : zlk op with
 | true =>
  refine zak op a b c d k _ _ _ _ _ ⟨rfl,rfl,rfl,rfl,rfl⟩ _ _ _ rfl rfl rfl h z ?_ w0 w P hs;rw [← hz];unfold z2K z8e;simp only [h,Bool.not_true,not_true_eq_false,if_false,Bool.and_assoc]
 | false =>
  have Hz:=hid hz;have hI:=hid (fun wx=>zm3 op false h wx);have H:=hid h;clear h hz
  go_enter Tryz.func172,Tryz.ntmps172
  go_wp2_with fail;refine (hI.out _).mono ?_;rintro en w1 ⟨rfl,rfl⟩;go_wp2_with fail;go_ret;refine ⟨?_,z3⟩;rw [← Hz.out];unfold z2K;simp [H.out]
theorem z1g (i : Ins) (z : Int) (hz : zT i = z) (hf : z2K i = 0) (hk : 0 ≤ i.k ∧ i.k < 4294967296) (w0 w : World) (P : HP) (hs : Sat w0 w P) : Calls Tryz.prog 126 #[z22 i] w (zp w0 (.int .i64 z) P):=by
 have hF:=hid (fun wx Q h=>z72 i 0 hf w0 wx Q h);obtain ⟨op,a,b,c,d,k⟩:=i;have Hz:=hid hz;have Hf:=hid hf;have hw : wrap64 k = k:=IntWalk.wrap64_in k ⟨by have:=hk.1;have : 0 ≤ k:=this;omega,by have:=hk.2;have : k < 4294967296:=this;omega⟩;have Hw:=hid hw;clear hz hf hk hw
 go_enter Tryz.func126,Tryz.ntmps126
 go_wp2_with fail;refine (hF.out _ _ z6).mono ?_;rintro en w1 ⟨rfl,hs1⟩;clear hs;go_wp2
 all_goals
  go_ret;refine ⟨?_,z3⟩;rw [← Hz.out];unfold zT;rw [if_neg (Classical.not_not.2 Hf.out)]
  first | (simp_all;done) | (simp_all;omega) | (rw [Hw.out];simp_all)
theorem zm4 (i : Ins) (isr : Bool) (z : Bool) (hz : may i isr = z) (w0 w : World) (P : HP) (hs : Sat w0 w P) : Calls Tryz.prog 230 #[z22 i,.bool isr] w (zp w0 (.bool z) P):=by
 obtain ⟨op,a,b,c,d,k⟩:=i;have Hz:=hid hz;clear hz
 cases isr
 all_goals
  go_enter Tryz.func230,Tryz.ntmps230
  go_wp2
  all_goals
   go_ret;refine ⟨?_,z3⟩;rw [← Hz.out];unfold may
   first | (simp_all;done) | (simp_all;omega) | (simp_all;by_cases hd : d = 1 <;> simp [hd])
theorem zhu (i : Ins) (n : Int) (isr : Bool) (z : Int) (hz : z1y i n isr = z) (hk : 0 ≤ i.k ∧ i.k < 4294967296) (w0 w : World) (P : HP) (hs : Sat w0 w P) : Calls Tryz.prog 204 #[z22 i,.int .i64 n,.bool isr] w (zp w0 (.int .i64 z) P):=by
 have hF:=hid (fun e he wx Q h=>z72 i e he w0 wx Q h);have hM:=hid (fun e he wx Q h=>zm4 i isr e he w0 wx Q h);unfold z1y at hz
 by_cases h1 : z2K i = 0
 ·rw [if_neg (Classical.not_not.2 h1)] at hz
  cases h2 : may i isr
  ·rw [h2,if_pos (by simp)] at hz;have H1:=hid h1;have H2:=hid h2;subst hz;clear h1 h2;obtain ⟨op,a,b,c,d,k⟩:=i
   go_enter Tryz.func204,Tryz.ntmps204
   go_wp2_with fail;refine (hF.out 0 H1.out _ _ z6).mono ?_;rintro en w1 ⟨rfl,hs1⟩;clear hs;go_wp2_with fail;refine (hM.out false H2.out _ _ z6).mono ?_;rintro en w1 ⟨rfl,hs2⟩;clear hs1;go_wp2_with fail;go_ret;exact ⟨rfl,z3⟩
  ·rw [h2,if_neg (by simp)] at hz;have H1:=hid h1;have H2:=hid h2;have Hz:=hid hz;obtain ⟨op,a,b,c,d,k⟩:=i;have hk0 : 0 ≤ k:=hk.1;have hk1 : k < 4294967296:=hk.2;clear h1 h2 hz hk
   go_enter Tryz.func204,Tryz.ntmps204
   go_wp2_with fail;refine (hF.out 0 H1.out _ _ z6).mono ?_;rintro en w1 ⟨rfl,hs1⟩;clear hs;go_wp2_with fail;refine (hM.out true H2.out _ _ z6).mono ?_;rintro en w1 ⟨rfl,hs2⟩;clear hs1;go_wp2
   all_goals
    go_ret;refine ⟨?_,z3⟩;rw [← Hz.out];simp_all
    try omega
 ·rw [if_pos h1] at hz;obtain ⟨op,a,b,c,d,k⟩:=i;have e1 : (z == 0) = false:=by rw [← hz];simpa using h1
  have Hz:=hid hz;clear h1 hz hM
  go_enter Tryz.func204,Tryz.ntmps204
  go_wp2_with fail;refine (hF.out z Hz.out _ _ z6).mono ?_;rintro en w1 ⟨rfl,hs1⟩;clear hs;go_wp2_with fail;go_ret;exact ⟨rfl,z3⟩
end Go.Proofs.YthcfimbidmogkaaGreatDoor
namespace Go.Proofs.YthcfimbidmogkaaGreatDoor
open Go.RowKit Go.Sx Go.Dl Go.Lk Go.Rq Go.Au
def Kn.wCount (K : Kn) (x : Int) : Kn:={ K with count:=x }
def Kn.wCycle (K : Kn) (x : Int) : Kn:={ K with cycle:=x }
def Kn.wTold (K : Kn) (x : List Ev) : Kn:={ K with told:=x }
def Kn.wS (K : Kn) (x : List Ck) : Kn:={ K with S:=x }
def Kn.wR (K : Kn) (x : Nat → List Nat) : Kn:={ K with R:=x }
def Kn.wRun (K : Kn) (x : Int) : Kn:={ K with run:=x }
def Kn.wIat (K : Kn) (x : Int) : Kn:={ K with iat:=x }
def Kn.wIrg (K : Kn) (x : R8) : Kn:={ K with irg:=x }
def Kn.wMems (K : Kn) (x : Nat → List Int) : Kn:={ K with mems:=x }
def Kn.wT (K : Kn) (x : Nat → Ts) : Kn:={ K with T:=x }
def Kn.wTm (K : Kn) (x : Nat → List Int) : Kn:={ K with tm:=x }
def Kn.wL (K : Kn) (x : Lk) : Kn:={ K with L:=x }
def Kn.wSm (K : Kn) (x : Nat → Int × List Int) : Kn:={ K with sm:=x }
def Kn.wMl (K : Kn) (x : Nat → Mq) : Kn:={ K with ml:=x }
def Kn.wLn (K : Kn) (x : Ln) : Kn:={ K with ln:=x }
def Kn.wReads (K : Kn) (x : Int) : Kn:={ K with reads:=x }
def Kn.wStopped (K : Kn) (x : Bool) : Kn:={ K with stopped:=x }
@[simp,go_sem] theorem Kn.wCount_count (K : Kn) (x : Int) : (K.wCount x).count = x:=rfl
@[simp,go_sem] theorem Kn.wCount_cycle (K : Kn) (x : Int) : (K.wCount x).cycle = K.cycle:=rfl
@[simp,go_sem] theorem Kn.wCount_told (K : Kn) (x : Int) : (K.wCount x).told = K.told:=rfl
@[simp,go_sem] theorem Kn.wCount_S (K : Kn) (x : Int) : (K.wCount x).S = K.S:=rfl
@[simp,go_sem] theorem Kn.wCount_R (K : Kn) (x : Int) : (K.wCount x).R = K.R:=rfl
@[simp,go_sem] theorem Kn.wCount_run (K : Kn) (x : Int) : (K.wCount x).run = K.run:=rfl
@[simp,go_sem] theorem Kn.wCount_iat (K : Kn) (x : Int) : (K.wCount x).iat = K.iat:=rfl
@[simp,go_sem] theorem Kn.wCount_irg (K : Kn) (x : Int) : (K.wCount x).irg = K.irg:=rfl
@[simp,go_sem] theorem Kn.wCount_mems (K : Kn) (x : Int) : (K.wCount x).mems = K.mems:=rfl
@[simp,go_sem] theorem Kn.wCount_T (K : Kn) (x : Int) : (K.wCount x).T = K.T:=rfl
@[simp,go_sem] theorem Kn.wCount_tm (K : Kn) (x : Int) : (K.wCount x).tm = K.tm:=rfl
@[simp,go_sem] theorem Kn.wCount_L (K : Kn) (x : Int) : (K.wCount x).L = K.L:=rfl
@[simp,go_sem] theorem Kn.wCount_sm (K : Kn) (x : Int) : (K.wCount x).sm = K.sm:=rfl
@[simp,go_sem] theorem Kn.wCount_ml (K : Kn) (x : Int) : (K.wCount x).ml = K.ml:=rfl
@[simp,go_sem] theorem Kn.wCount_ln (K : Kn) (x : Int) : (K.wCount x).ln = K.ln:=rfl
@[simp,go_sem] theorem Kn.wCount_reads (K : Kn) (x : Int) : (K.wCount x).reads = K.reads:=rfl
@[simp,go_sem] theorem Kn.wCount_stopped (K : Kn) (x : Int) : (K.wCount x).stopped = K.stopped:=rfl
@[simp] theorem Kn.wCount_self (K : Kn) : K.wCount K.count = K:=rfl
@[simp] theorem Kn.wCount_wCount (K : Kn) (x y : Int) : (K.wCount x).wCount y = K.wCount y:=rfl
@[simp,go_sem] theorem Kn.wCycle_count (K : Kn) (x : Int) : (K.wCycle x).count = K.count:=rfl
@[simp,go_sem] theorem Kn.wCycle_cycle (K : Kn) (x : Int) : (K.wCycle x).cycle = x:=rfl
@[simp,go_sem] theorem Kn.wCycle_told (K : Kn) (x : Int) : (K.wCycle x).told = K.told:=rfl
@[simp,go_sem] theorem Kn.wCycle_S (K : Kn) (x : Int) : (K.wCycle x).S = K.S:=rfl
@[simp,go_sem] theorem Kn.wCycle_R (K : Kn) (x : Int) : (K.wCycle x).R = K.R:=rfl
@[simp,go_sem] theorem Kn.wCycle_run (K : Kn) (x : Int) : (K.wCycle x).run = K.run:=rfl
@[simp,go_sem] theorem Kn.wCycle_iat (K : Kn) (x : Int) : (K.wCycle x).iat = K.iat:=rfl
@[simp,go_sem] theorem Kn.wCycle_irg (K : Kn) (x : Int) : (K.wCycle x).irg = K.irg:=rfl
@[simp,go_sem] theorem Kn.wCycle_mems (K : Kn) (x : Int) : (K.wCycle x).mems = K.mems:=rfl
@[simp,go_sem] theorem Kn.wCycle_T (K : Kn) (x : Int) : (K.wCycle x).T = K.T:=rfl
@[simp,go_sem] theorem Kn.wCycle_tm (K : Kn) (x : Int) : (K.wCycle x).tm = K.tm:=rfl
@[simp,go_sem] theorem Kn.wCycle_L (K : Kn) (x : Int) : (K.wCycle x).L = K.L:=rfl
@[simp,go_sem] theorem Kn.wCycle_sm (K : Kn) (x : Int) : (K.wCycle x).sm = K.sm:=rfl
@[simp,go_sem] theorem Kn.wCycle_ml (K : Kn) (x : Int) : (K.wCycle x).ml = K.ml:=rfl
@[simp,go_sem] theorem Kn.wCycle_ln (K : Kn) (x : Int) : (K.wCycle x).ln = K.ln:=rfl
@[simp,go_sem] theorem Kn.wCycle_reads (K : Kn) (x : Int) : (K.wCycle x).reads = K.reads:=rfl
@[simp,go_sem] theorem Kn.wCycle_stopped (K : Kn) (x : Int) : (K.wCycle x).stopped = K.stopped:=rfl
@[simp] theorem Kn.wCycle_self (K : Kn) : K.wCycle K.cycle = K:=rfl
@[simp] theorem Kn.wCycle_wCycle (K : Kn) (x y : Int) : (K.wCycle x).wCycle y = K.wCycle y:=rfl
@[simp,go_sem] theorem Kn.wTold_count (K : Kn) (x : List Ev) : (K.wTold x).count = K.count:=rfl
@[simp,go_sem] theorem Kn.wTold_cycle (K : Kn) (x : List Ev) : (K.wTold x).cycle = K.cycle:=rfl
@[simp,go_sem] theorem Kn.wTold_told (K : Kn) (x : List Ev) : (K.wTold x).told = x:=rfl
@[simp,go_sem] theorem Kn.wTold_S (K : Kn) (x : List Ev) : (K.wTold x).S = K.S:=rfl
@[simp,go_sem] theorem Kn.wTold_R (K : Kn) (x : List Ev) : (K.wTold x).R = K.R:=rfl
@[simp,go_sem] theorem Kn.wTold_run (K : Kn) (x : List Ev) : (K.wTold x).run = K.run:=rfl
@[simp,go_sem] theorem Kn.wTold_iat (K : Kn) (x : List Ev) : (K.wTold x).iat = K.iat:=rfl
@[simp,go_sem] theorem Kn.wTold_irg (K : Kn) (x : List Ev) : (K.wTold x).irg = K.irg:=rfl
@[simp,go_sem] theorem Kn.wTold_mems (K : Kn) (x : List Ev) : (K.wTold x).mems = K.mems:=rfl
@[simp,go_sem] theorem Kn.wTold_T (K : Kn) (x : List Ev) : (K.wTold x).T = K.T:=rfl
@[simp,go_sem] theorem Kn.wTold_tm (K : Kn) (x : List Ev) : (K.wTold x).tm = K.tm:=rfl
@[simp,go_sem] theorem Kn.wTold_L (K : Kn) (x : List Ev) : (K.wTold x).L = K.L:=rfl
@[simp,go_sem] theorem Kn.wTold_sm (K : Kn) (x : List Ev) : (K.wTold x).sm = K.sm:=rfl
@[simp,go_sem] theorem Kn.wTold_ml (K : Kn) (x : List Ev) : (K.wTold x).ml = K.ml:=rfl
@[simp,go_sem] theorem Kn.wTold_ln (K : Kn) (x : List Ev) : (K.wTold x).ln = K.ln:=rfl
@[simp,go_sem] theorem Kn.wTold_reads (K : Kn) (x : List Ev) : (K.wTold x).reads = K.reads:=rfl
@[simp,go_sem] theorem Kn.wTold_stopped (K : Kn) (x : List Ev) : (K.wTold x).stopped = K.stopped:=rfl
@[simp] theorem Kn.wTold_self (K : Kn) : K.wTold K.told = K:=rfl
@[simp] theorem Kn.wTold_wTold (K : Kn) (x y : List Ev) : (K.wTold x).wTold y = K.wTold y:=rfl
@[simp,go_sem] theorem Kn.wS_count (K : Kn) (x : List Ck) : (K.wS x).count = K.count:=rfl
@[simp,go_sem] theorem Kn.wS_cycle (K : Kn) (x : List Ck) : (K.wS x).cycle = K.cycle:=rfl
@[simp,go_sem] theorem Kn.wS_told (K : Kn) (x : List Ck) : (K.wS x).told = K.told:=rfl
@[simp,go_sem] theorem Kn.wS_S (K : Kn) (x : List Ck) : (K.wS x).S = x:=rfl
@[simp,go_sem] theorem Kn.wS_R (K : Kn) (x : List Ck) : (K.wS x).R = K.R:=rfl
@[simp,go_sem] theorem Kn.wS_run (K : Kn) (x : List Ck) : (K.wS x).run = K.run:=rfl
@[simp,go_sem] theorem Kn.wS_iat (K : Kn) (x : List Ck) : (K.wS x).iat = K.iat:=rfl
@[simp,go_sem] theorem Kn.wS_irg (K : Kn) (x : List Ck) : (K.wS x).irg = K.irg:=rfl
@[simp,go_sem] theorem Kn.wS_mems (K : Kn) (x : List Ck) : (K.wS x).mems = K.mems:=rfl
@[simp,go_sem] theorem Kn.wS_T (K : Kn) (x : List Ck) : (K.wS x).T = K.T:=rfl
@[simp,go_sem] theorem Kn.wS_tm (K : Kn) (x : List Ck) : (K.wS x).tm = K.tm:=rfl
@[simp,go_sem] theorem Kn.wS_L (K : Kn) (x : List Ck) : (K.wS x).L = K.L:=rfl
@[simp,go_sem] theorem Kn.wS_sm (K : Kn) (x : List Ck) : (K.wS x).sm = K.sm:=rfl
@[simp,go_sem] theorem Kn.wS_ml (K : Kn) (x : List Ck) : (K.wS x).ml = K.ml:=rfl
@[simp,go_sem] theorem Kn.wS_ln (K : Kn) (x : List Ck) : (K.wS x).ln = K.ln:=rfl
@[simp,go_sem] theorem Kn.wS_reads (K : Kn) (x : List Ck) : (K.wS x).reads = K.reads:=rfl
@[simp,go_sem] theorem Kn.wS_stopped (K : Kn) (x : List Ck) : (K.wS x).stopped = K.stopped:=rfl
@[simp] theorem Kn.wS_self (K : Kn) : K.wS K.S = K:=rfl
@[simp] theorem Kn.wS_wS (K : Kn) (x y : List Ck) : (K.wS x).wS y = K.wS y:=rfl
@[simp,go_sem] theorem Kn.wR_count (K : Kn) (x : Nat → List Nat) : (K.wR x).count = K.count:=rfl
@[simp,go_sem] theorem Kn.wR_cycle (K : Kn) (x : Nat → List Nat) : (K.wR x).cycle = K.cycle:=rfl
@[simp,go_sem] theorem Kn.wR_told (K : Kn) (x : Nat → List Nat) : (K.wR x).told = K.told:=rfl
@[simp,go_sem] theorem Kn.wR_S (K : Kn) (x : Nat → List Nat) : (K.wR x).S = K.S:=rfl
@[simp,go_sem] theorem Kn.wR_R (K : Kn) (x : Nat → List Nat) : (K.wR x).R = x:=rfl
@[simp,go_sem] theorem Kn.wR_run (K : Kn) (x : Nat → List Nat) : (K.wR x).run = K.run:=rfl
@[simp,go_sem] theorem Kn.wR_iat (K : Kn) (x : Nat → List Nat) : (K.wR x).iat = K.iat:=rfl
@[simp,go_sem] theorem Kn.wR_irg (K : Kn) (x : Nat → List Nat) : (K.wR x).irg = K.irg:=rfl
@[simp,go_sem] theorem Kn.wR_mems (K : Kn) (x : Nat → List Nat) : (K.wR x).mems = K.mems:=rfl
@[simp,go_sem] theorem Kn.wR_T (K : Kn) (x : Nat → List Nat) : (K.wR x).T = K.T:=rfl
@[simp,go_sem] theorem Kn.wR_tm (K : Kn) (x : Nat → List Nat) : (K.wR x).tm = K.tm:=rfl
@[simp,go_sem] theorem Kn.wR_L (K : Kn) (x : Nat → List Nat) : (K.wR x).L = K.L:=rfl
@[simp,go_sem] theorem Kn.wR_sm (K : Kn) (x : Nat → List Nat) : (K.wR x).sm = K.sm:=rfl
@[simp,go_sem] theorem Kn.wR_ml (K : Kn) (x : Nat → List Nat) : (K.wR x).ml = K.ml:=rfl
@[simp,go_sem] theorem Kn.wR_ln (K : Kn) (x : Nat → List Nat) : (K.wR x).ln = K.ln:=rfl
@[simp,go_sem] theorem Kn.wR_reads (K : Kn) (x : Nat → List Nat) : (K.wR x).reads = K.reads:=rfl
@[simp,go_sem] theorem Kn.wR_stopped (K : Kn) (x : Nat → List Nat) : (K.wR x).stopped = K.stopped:=rfl
@[simp] theorem Kn.wR_self (K : Kn) : K.wR K.R = K:=rfl
@[simp] theorem Kn.wR_wR (K : Kn) (x y : Nat → List Nat) : (K.wR x).wR y = K.wR y:=rfl
@[simp,go_sem] theorem Kn.wRun_count (K : Kn) (x : Int) : (K.wRun x).count = K.count:=rfl
@[simp,go_sem] theorem Kn.wRun_cycle (K : Kn) (x : Int) : (K.wRun x).cycle = K.cycle:=rfl
@[simp,go_sem] theorem Kn.wRun_told (K : Kn) (x : Int) : (K.wRun x).told = K.told:=rfl
@[simp,go_sem] theorem Kn.wRun_S (K : Kn) (x : Int) : (K.wRun x).S = K.S:=rfl
@[simp,go_sem] theorem Kn.wRun_R (K : Kn) (x : Int) : (K.wRun x).R = K.R:=rfl
@[simp,go_sem] theorem Kn.wRun_run (K : Kn) (x : Int) : (K.wRun x).run = x:=rfl
@[simp,go_sem] theorem Kn.wRun_iat (K : Kn) (x : Int) : (K.wRun x).iat = K.iat:=rfl
@[simp,go_sem] theorem Kn.wRun_irg (K : Kn) (x : Int) : (K.wRun x).irg = K.irg:=rfl
@[simp,go_sem] theorem Kn.wRun_mems (K : Kn) (x : Int) : (K.wRun x).mems = K.mems:=rfl
@[simp,go_sem] theorem Kn.wRun_T (K : Kn) (x : Int) : (K.wRun x).T = K.T:=rfl
@[simp,go_sem] theorem Kn.wRun_tm (K : Kn) (x : Int) : (K.wRun x).tm = K.tm:=rfl
@[simp,go_sem] theorem Kn.wRun_L (K : Kn) (x : Int) : (K.wRun x).L = K.L:=rfl
@[simp,go_sem] theorem Kn.wRun_sm (K : Kn) (x : Int) : (K.wRun x).sm = K.sm:=rfl
@[simp,go_sem] theorem Kn.wRun_ml (K : Kn) (x : Int) : (K.wRun x).ml = K.ml:=rfl
@[simp,go_sem] theorem Kn.wRun_ln (K : Kn) (x : Int) : (K.wRun x).ln = K.ln:=rfl
@[simp,go_sem] theorem Kn.wRun_reads (K : Kn) (x : Int) : (K.wRun x).reads = K.reads:=rfl
@[simp,go_sem] theorem Kn.wRun_stopped (K : Kn) (x : Int) : (K.wRun x).stopped = K.stopped:=rfl
@[simp] theorem Kn.wRun_self (K : Kn) : K.wRun K.run = K:=rfl
@[simp] theorem Kn.wRun_wRun (K : Kn) (x y : Int) : (K.wRun x).wRun y = K.wRun y:=rfl
@[simp,go_sem] theorem Kn.wIat_count (K : Kn) (x : Int) : (K.wIat x).count = K.count:=rfl
@[simp,go_sem] theorem Kn.wIat_cycle (K : Kn) (x : Int) : (K.wIat x).cycle = K.cycle:=rfl
@[simp,go_sem] theorem Kn.wIat_told (K : Kn) (x : Int) : (K.wIat x).told = K.told:=rfl
@[simp,go_sem] theorem Kn.wIat_S (K : Kn) (x : Int) : (K.wIat x).S = K.S:=rfl
@[simp,go_sem] theorem Kn.wIat_R (K : Kn) (x : Int) : (K.wIat x).R = K.R:=rfl
@[simp,go_sem] theorem Kn.wIat_run (K : Kn) (x : Int) : (K.wIat x).run = K.run:=rfl
@[simp,go_sem] theorem Kn.wIat_iat (K : Kn) (x : Int) : (K.wIat x).iat = x:=rfl
@[simp,go_sem] theorem Kn.wIat_irg (K : Kn) (x : Int) : (K.wIat x).irg = K.irg:=rfl
@[simp,go_sem] theorem Kn.wIat_mems (K : Kn) (x : Int) : (K.wIat x).mems = K.mems:=rfl
@[simp,go_sem] theorem Kn.wIat_T (K : Kn) (x : Int) : (K.wIat x).T = K.T:=rfl
@[simp,go_sem] theorem Kn.wIat_tm (K : Kn) (x : Int) : (K.wIat x).tm = K.tm:=rfl
@[simp,go_sem] theorem Kn.wIat_L (K : Kn) (x : Int) : (K.wIat x).L = K.L:=rfl
@[simp,go_sem] theorem Kn.wIat_sm (K : Kn) (x : Int) : (K.wIat x).sm = K.sm:=rfl
@[simp,go_sem] theorem Kn.wIat_ml (K : Kn) (x : Int) : (K.wIat x).ml = K.ml:=rfl
@[simp,go_sem] theorem Kn.wIat_ln (K : Kn) (x : Int) : (K.wIat x).ln = K.ln:=rfl
@[simp,go_sem] theorem Kn.wIat_reads (K : Kn) (x : Int) : (K.wIat x).reads = K.reads:=rfl
@[simp,go_sem] theorem Kn.wIat_stopped (K : Kn) (x : Int) : (K.wIat x).stopped = K.stopped:=rfl
@[simp] theorem Kn.wIat_self (K : Kn) : K.wIat K.iat = K:=rfl
@[simp] theorem Kn.wIat_wIat (K : Kn) (x y : Int) : (K.wIat x).wIat y = K.wIat y:=rfl
@[simp,go_sem] theorem Kn.wIrg_count (K : Kn) (x : R8) : (K.wIrg x).count = K.count:=rfl
@[simp,go_sem] theorem Kn.wIrg_cycle (K : Kn) (x : R8) : (K.wIrg x).cycle = K.cycle:=rfl
@[simp,go_sem] theorem Kn.wIrg_told (K : Kn) (x : R8) : (K.wIrg x).told = K.told:=rfl
@[simp,go_sem] theorem Kn.wIrg_S (K : Kn) (x : R8) : (K.wIrg x).S = K.S:=rfl
@[simp,go_sem] theorem Kn.wIrg_R (K : Kn) (x : R8) : (K.wIrg x).R = K.R:=rfl
@[simp,go_sem] theorem Kn.wIrg_run (K : Kn) (x : R8) : (K.wIrg x).run = K.run:=rfl
@[simp,go_sem] theorem Kn.wIrg_iat (K : Kn) (x : R8) : (K.wIrg x).iat = K.iat:=rfl
@[simp,go_sem] theorem Kn.wIrg_irg (K : Kn) (x : R8) : (K.wIrg x).irg = x:=rfl
@[simp,go_sem] theorem Kn.wIrg_mems (K : Kn) (x : R8) : (K.wIrg x).mems = K.mems:=rfl
@[simp,go_sem] theorem Kn.wIrg_T (K : Kn) (x : R8) : (K.wIrg x).T = K.T:=rfl
@[simp,go_sem] theorem Kn.wIrg_tm (K : Kn) (x : R8) : (K.wIrg x).tm = K.tm:=rfl
@[simp,go_sem] theorem Kn.wIrg_L (K : Kn) (x : R8) : (K.wIrg x).L = K.L:=rfl
@[simp,go_sem] theorem Kn.wIrg_sm (K : Kn) (x : R8) : (K.wIrg x).sm = K.sm:=rfl
@[simp,go_sem] theorem Kn.wIrg_ml (K : Kn) (x : R8) : (K.wIrg x).ml = K.ml:=rfl
@[simp,go_sem] theorem Kn.wIrg_ln (K : Kn) (x : R8) : (K.wIrg x).ln = K.ln:=rfl
@[simp,go_sem] theorem Kn.wIrg_reads (K : Kn) (x : R8) : (K.wIrg x).reads = K.reads:=rfl
@[simp,go_sem] theorem Kn.wIrg_stopped (K : Kn) (x : R8) : (K.wIrg x).stopped = K.stopped:=rfl
@[simp] theorem Kn.wIrg_self (K : Kn) : K.wIrg K.irg = K:=rfl
@[simp] theorem Kn.wIrg_wIrg (K : Kn) (x y : R8) : (K.wIrg x).wIrg y = K.wIrg y:=rfl
@[simp,go_sem] theorem Kn.wMems_count (K : Kn) (x : Nat → List Int) : (K.wMems x).count = K.count:=rfl
@[simp,go_sem] theorem Kn.wMems_cycle (K : Kn) (x : Nat → List Int) : (K.wMems x).cycle = K.cycle:=rfl
@[simp,go_sem] theorem Kn.wMems_told (K : Kn) (x : Nat → List Int) : (K.wMems x).told = K.told:=rfl
@[simp,go_sem] theorem Kn.wMems_S (K : Kn) (x : Nat → List Int) : (K.wMems x).S = K.S:=rfl
@[simp,go_sem] theorem Kn.wMems_R (K : Kn) (x : Nat → List Int) : (K.wMems x).R = K.R:=rfl
@[simp,go_sem] theorem Kn.wMems_run (K : Kn) (x : Nat → List Int) : (K.wMems x).run = K.run:=rfl
@[simp,go_sem] theorem Kn.wMems_iat (K : Kn) (x : Nat → List Int) : (K.wMems x).iat = K.iat:=rfl
@[simp,go_sem] theorem Kn.wMems_irg (K : Kn) (x : Nat → List Int) : (K.wMems x).irg = K.irg:=rfl
@[simp,go_sem] theorem Kn.wMems_mems (K : Kn) (x : Nat → List Int) : (K.wMems x).mems = x:=rfl
@[simp,go_sem] theorem Kn.wMems_T (K : Kn) (x : Nat → List Int) : (K.wMems x).T = K.T:=rfl
@[simp,go_sem] theorem Kn.wMems_tm (K : Kn) (x : Nat → List Int) : (K.wMems x).tm = K.tm:=rfl
@[simp,go_sem] theorem Kn.wMems_L (K : Kn) (x : Nat → List Int) : (K.wMems x).L = K.L:=rfl
@[simp,go_sem] theorem Kn.wMems_sm (K : Kn) (x : Nat → List Int) : (K.wMems x).sm = K.sm:=rfl
@[simp,go_sem] theorem Kn.wMems_ml (K : Kn) (x : Nat → List Int) : (K.wMems x).ml = K.ml:=rfl
@[simp,go_sem] theorem Kn.wMems_ln (K : Kn) (x : Nat → List Int) : (K.wMems x).ln = K.ln:=rfl
@[simp,go_sem] theorem Kn.wMems_reads (K : Kn) (x : Nat → List Int) : (K.wMems x).reads = K.reads:=rfl
@[simp,go_sem] theorem Kn.wMems_stopped (K : Kn) (x : Nat → List Int) : (K.wMems x).stopped = K.stopped:=rfl
@[simp] theorem Kn.wMems_self (K : Kn) : K.wMems K.mems = K:=rfl
@[simp] theorem Kn.wMems_wMems (K : Kn) (x y : Nat → List Int) : (K.wMems x).wMems y = K.wMems y:=rfl
@[simp,go_sem] theorem Kn.wT_count (K : Kn) (x : Nat → Ts) : (K.wT x).count = K.count:=rfl
@[simp,go_sem] theorem Kn.wT_cycle (K : Kn) (x : Nat → Ts) : (K.wT x).cycle = K.cycle:=rfl
@[simp,go_sem] theorem Kn.wT_told (K : Kn) (x : Nat → Ts) : (K.wT x).told = K.told:=rfl
@[simp,go_sem] theorem Kn.wT_S (K : Kn) (x : Nat → Ts) : (K.wT x).S = K.S:=rfl
@[simp,go_sem] theorem Kn.wT_R (K : Kn) (x : Nat → Ts) : (K.wT x).R = K.R:=rfl
@[simp,go_sem] theorem Kn.wT_run (K : Kn) (x : Nat → Ts) : (K.wT x).run = K.run:=rfl
@[simp,go_sem] theorem Kn.wT_iat (K : Kn) (x : Nat → Ts) : (K.wT x).iat = K.iat:=rfl
@[simp,go_sem] theorem Kn.wT_irg (K : Kn) (x : Nat → Ts) : (K.wT x).irg = K.irg:=rfl
@[simp,go_sem] theorem Kn.wT_mems (K : Kn) (x : Nat → Ts) : (K.wT x).mems = K.mems:=rfl
@[simp,go_sem] theorem Kn.wT_T (K : Kn) (x : Nat → Ts) : (K.wT x).T = x:=rfl
@[simp,go_sem] theorem Kn.wT_tm (K : Kn) (x : Nat → Ts) : (K.wT x).tm = K.tm:=rfl
@[simp,go_sem] theorem Kn.wT_L (K : Kn) (x : Nat → Ts) : (K.wT x).L = K.L:=rfl
@[simp,go_sem] theorem Kn.wT_sm (K : Kn) (x : Nat → Ts) : (K.wT x).sm = K.sm:=rfl
@[simp,go_sem] theorem Kn.wT_ml (K : Kn) (x : Nat → Ts) : (K.wT x).ml = K.ml:=rfl
@[simp,go_sem] theorem Kn.wT_ln (K : Kn) (x : Nat → Ts) : (K.wT x).ln = K.ln:=rfl
@[simp,go_sem] theorem Kn.wT_reads (K : Kn) (x : Nat → Ts) : (K.wT x).reads = K.reads:=rfl
@[simp,go_sem] theorem Kn.wT_stopped (K : Kn) (x : Nat → Ts) : (K.wT x).stopped = K.stopped:=rfl
@[simp] theorem Kn.wT_self (K : Kn) : K.wT K.T = K:=rfl
@[simp] theorem Kn.wT_wT (K : Kn) (x y : Nat → Ts) : (K.wT x).wT y = K.wT y:=rfl
@[simp,go_sem] theorem Kn.wTm_count (K : Kn) (x : Nat → List Int) : (K.wTm x).count = K.count:=rfl
@[simp,go_sem] theorem Kn.wTm_cycle (K : Kn) (x : Nat → List Int) : (K.wTm x).cycle = K.cycle:=rfl
@[simp,go_sem] theorem Kn.wTm_told (K : Kn) (x : Nat → List Int) : (K.wTm x).told = K.told:=rfl
@[simp,go_sem] theorem Kn.wTm_S (K : Kn) (x : Nat → List Int) : (K.wTm x).S = K.S:=rfl
@[simp,go_sem] theorem Kn.wTm_R (K : Kn) (x : Nat → List Int) : (K.wTm x).R = K.R:=rfl
@[simp,go_sem] theorem Kn.wTm_run (K : Kn) (x : Nat → List Int) : (K.wTm x).run = K.run:=rfl
@[simp,go_sem] theorem Kn.wTm_iat (K : Kn) (x : Nat → List Int) : (K.wTm x).iat = K.iat:=rfl
@[simp,go_sem] theorem Kn.wTm_irg (K : Kn) (x : Nat → List Int) : (K.wTm x).irg = K.irg:=rfl
@[simp,go_sem] theorem Kn.wTm_mems (K : Kn) (x : Nat → List Int) : (K.wTm x).mems = K.mems:=rfl
@[simp,go_sem] theorem Kn.wTm_T (K : Kn) (x : Nat → List Int) : (K.wTm x).T = K.T:=rfl
@[simp,go_sem] theorem Kn.wTm_tm (K : Kn) (x : Nat → List Int) : (K.wTm x).tm = x:=rfl
@[simp,go_sem] theorem Kn.wTm_L (K : Kn) (x : Nat → List Int) : (K.wTm x).L = K.L:=rfl
@[simp,go_sem] theorem Kn.wTm_sm (K : Kn) (x : Nat → List Int) : (K.wTm x).sm = K.sm:=rfl
@[simp,go_sem] theorem Kn.wTm_ml (K : Kn) (x : Nat → List Int) : (K.wTm x).ml = K.ml:=rfl
@[simp,go_sem] theorem Kn.wTm_ln (K : Kn) (x : Nat → List Int) : (K.wTm x).ln = K.ln:=rfl
@[simp,go_sem] theorem Kn.wTm_reads (K : Kn) (x : Nat → List Int) : (K.wTm x).reads = K.reads:=rfl
@[simp,go_sem] theorem Kn.wTm_stopped (K : Kn) (x : Nat → List Int) : (K.wTm x).stopped = K.stopped:=rfl
@[simp] theorem Kn.wTm_self (K : Kn) : K.wTm K.tm = K:=rfl
@[simp] theorem Kn.wTm_wTm (K : Kn) (x y : Nat → List Int) : (K.wTm x).wTm y = K.wTm y:=rfl
@[simp,go_sem] theorem Kn.wL_count (K : Kn) (x : Lk) : (K.wL x).count = K.count:=rfl
@[simp,go_sem] theorem Kn.wL_cycle (K : Kn) (x : Lk) : (K.wL x).cycle = K.cycle:=rfl
@[simp,go_sem] theorem Kn.wL_told (K : Kn) (x : Lk) : (K.wL x).told = K.told:=rfl
@[simp,go_sem] theorem Kn.wL_S (K : Kn) (x : Lk) : (K.wL x).S = K.S:=rfl
@[simp,go_sem] theorem Kn.wL_R (K : Kn) (x : Lk) : (K.wL x).R = K.R:=rfl
@[simp,go_sem] theorem Kn.wL_run (K : Kn) (x : Lk) : (K.wL x).run = K.run:=rfl
@[simp,go_sem] theorem Kn.wL_iat (K : Kn) (x : Lk) : (K.wL x).iat = K.iat:=rfl
@[simp,go_sem] theorem Kn.wL_irg (K : Kn) (x : Lk) : (K.wL x).irg = K.irg:=rfl
@[simp,go_sem] theorem Kn.wL_mems (K : Kn) (x : Lk) : (K.wL x).mems = K.mems:=rfl
@[simp,go_sem] theorem Kn.wL_T (K : Kn) (x : Lk) : (K.wL x).T = K.T:=rfl
@[simp,go_sem] theorem Kn.wL_tm (K : Kn) (x : Lk) : (K.wL x).tm = K.tm:=rfl
@[simp,go_sem] theorem Kn.wL_L (K : Kn) (x : Lk) : (K.wL x).L = x:=rfl
@[simp,go_sem] theorem Kn.wL_sm (K : Kn) (x : Lk) : (K.wL x).sm = K.sm:=rfl
@[simp,go_sem] theorem Kn.wL_ml (K : Kn) (x : Lk) : (K.wL x).ml = K.ml:=rfl
@[simp,go_sem] theorem Kn.wL_ln (K : Kn) (x : Lk) : (K.wL x).ln = K.ln:=rfl
@[simp,go_sem] theorem Kn.wL_reads (K : Kn) (x : Lk) : (K.wL x).reads = K.reads:=rfl
@[simp,go_sem] theorem Kn.wL_stopped (K : Kn) (x : Lk) : (K.wL x).stopped = K.stopped:=rfl
@[simp] theorem Kn.wL_self (K : Kn) : K.wL K.L = K:=rfl
@[simp] theorem Kn.wL_wL (K : Kn) (x y : Lk) : (K.wL x).wL y = K.wL y:=rfl
@[simp,go_sem] theorem Kn.wSm_count (K : Kn) (x : Nat → Int × List Int) : (K.wSm x).count = K.count:=rfl
@[simp,go_sem] theorem Kn.wSm_cycle (K : Kn) (x : Nat → Int × List Int) : (K.wSm x).cycle = K.cycle:=rfl
@[simp,go_sem] theorem Kn.wSm_told (K : Kn) (x : Nat → Int × List Int) : (K.wSm x).told = K.told:=rfl
@[simp,go_sem] theorem Kn.wSm_S (K : Kn) (x : Nat → Int × List Int) : (K.wSm x).S = K.S:=rfl
@[simp,go_sem] theorem Kn.wSm_R (K : Kn) (x : Nat → Int × List Int) : (K.wSm x).R = K.R:=rfl
@[simp,go_sem] theorem Kn.wSm_run (K : Kn) (x : Nat → Int × List Int) : (K.wSm x).run = K.run:=rfl
@[simp,go_sem] theorem Kn.wSm_iat (K : Kn) (x : Nat → Int × List Int) : (K.wSm x).iat = K.iat:=rfl
@[simp,go_sem] theorem Kn.wSm_irg (K : Kn) (x : Nat → Int × List Int) : (K.wSm x).irg = K.irg:=rfl
@[simp,go_sem] theorem Kn.wSm_mems (K : Kn) (x : Nat → Int × List Int) : (K.wSm x).mems = K.mems:=rfl
@[simp,go_sem] theorem Kn.wSm_T (K : Kn) (x : Nat → Int × List Int) : (K.wSm x).T = K.T:=rfl
@[simp,go_sem] theorem Kn.wSm_tm (K : Kn) (x : Nat → Int × List Int) : (K.wSm x).tm = K.tm:=rfl
@[simp,go_sem] theorem Kn.wSm_L (K : Kn) (x : Nat → Int × List Int) : (K.wSm x).L = K.L:=rfl
@[simp,go_sem] theorem Kn.wSm_sm (K : Kn) (x : Nat → Int × List Int) : (K.wSm x).sm = x:=rfl
@[simp,go_sem] theorem Kn.wSm_ml (K : Kn) (x : Nat → Int × List Int) : (K.wSm x).ml = K.ml:=rfl
@[simp,go_sem] theorem Kn.wSm_ln (K : Kn) (x : Nat → Int × List Int) : (K.wSm x).ln = K.ln:=rfl
@[simp,go_sem] theorem Kn.wSm_reads (K : Kn) (x : Nat → Int × List Int) : (K.wSm x).reads = K.reads:=rfl
@[simp,go_sem] theorem Kn.wSm_stopped (K : Kn) (x : Nat → Int × List Int) : (K.wSm x).stopped = K.stopped:=rfl
@[simp] theorem Kn.wSm_self (K : Kn) : K.wSm K.sm = K:=rfl
@[simp] theorem Kn.wSm_wSm (K : Kn) (x y : Nat → Int × List Int) : (K.wSm x).wSm y = K.wSm y:=rfl
@[simp,go_sem] theorem Kn.wMl_count (K : Kn) (x : Nat → Mq) : (K.wMl x).count = K.count:=rfl
@[simp,go_sem] theorem Kn.wMl_cycle (K : Kn) (x : Nat → Mq) : (K.wMl x).cycle = K.cycle:=rfl
@[simp,go_sem] theorem Kn.wMl_told (K : Kn) (x : Nat → Mq) : (K.wMl x).told = K.told:=rfl
@[simp,go_sem] theorem Kn.wMl_S (K : Kn) (x : Nat → Mq) : (K.wMl x).S = K.S:=rfl
@[simp,go_sem] theorem Kn.wMl_R (K : Kn) (x : Nat → Mq) : (K.wMl x).R = K.R:=rfl
@[simp,go_sem] theorem Kn.wMl_run (K : Kn) (x : Nat → Mq) : (K.wMl x).run = K.run:=rfl
@[simp,go_sem] theorem Kn.wMl_iat (K : Kn) (x : Nat → Mq) : (K.wMl x).iat = K.iat:=rfl
@[simp,go_sem] theorem Kn.wMl_irg (K : Kn) (x : Nat → Mq) : (K.wMl x).irg = K.irg:=rfl
@[simp,go_sem] theorem Kn.wMl_mems (K : Kn) (x : Nat → Mq) : (K.wMl x).mems = K.mems:=rfl
@[simp,go_sem] theorem Kn.wMl_T (K : Kn) (x : Nat → Mq) : (K.wMl x).T = K.T:=rfl
@[simp,go_sem] theorem Kn.wMl_tm (K : Kn) (x : Nat → Mq) : (K.wMl x).tm = K.tm:=rfl
@[simp,go_sem] theorem Kn.wMl_L (K : Kn) (x : Nat → Mq) : (K.wMl x).L = K.L:=rfl
@[simp,go_sem] theorem Kn.wMl_sm (K : Kn) (x : Nat → Mq) : (K.wMl x).sm = K.sm:=rfl
@[simp,go_sem] theorem Kn.wMl_ml (K : Kn) (x : Nat → Mq) : (K.wMl x).ml = x:=rfl
@[simp,go_sem] theorem Kn.wMl_ln (K : Kn) (x : Nat → Mq) : (K.wMl x).ln = K.ln:=rfl
@[simp,go_sem] theorem Kn.wMl_reads (K : Kn) (x : Nat → Mq) : (K.wMl x).reads = K.reads:=rfl
@[simp,go_sem] theorem Kn.wMl_stopped (K : Kn) (x : Nat → Mq) : (K.wMl x).stopped = K.stopped:=rfl
@[simp] theorem Kn.wMl_self (K : Kn) : K.wMl K.ml = K:=rfl
@[simp] theorem Kn.wMl_wMl (K : Kn) (x y : Nat → Mq) : (K.wMl x).wMl y = K.wMl y:=rfl
@[simp,go_sem] theorem Kn.wLn_count (K : Kn) (x : Ln) : (K.wLn x).count = K.count:=rfl
@[simp,go_sem] theorem Kn.wLn_cycle (K : Kn) (x : Ln) : (K.wLn x).cycle = K.cycle:=rfl
@[simp,go_sem] theorem Kn.wLn_told (K : Kn) (x : Ln) : (K.wLn x).told = K.told:=rfl
@[simp,go_sem] theorem Kn.wLn_S (K : Kn) (x : Ln) : (K.wLn x).S = K.S:=rfl
@[simp,go_sem] theorem Kn.wLn_R (K : Kn) (x : Ln) : (K.wLn x).R = K.R:=rfl
@[simp,go_sem] theorem Kn.wLn_run (K : Kn) (x : Ln) : (K.wLn x).run = K.run:=rfl
@[simp,go_sem] theorem Kn.wLn_iat (K : Kn) (x : Ln) : (K.wLn x).iat = K.iat:=rfl
@[simp,go_sem] theorem Kn.wLn_irg (K : Kn) (x : Ln) : (K.wLn x).irg = K.irg:=rfl
@[simp,go_sem] theorem Kn.wLn_mems (K : Kn) (x : Ln) : (K.wLn x).mems = K.mems:=rfl
@[simp,go_sem] theorem Kn.wLn_T (K : Kn) (x : Ln) : (K.wLn x).T = K.T:=rfl
@[simp,go_sem] theorem Kn.wLn_tm (K : Kn) (x : Ln) : (K.wLn x).tm = K.tm:=rfl
@[simp,go_sem] theorem Kn.wLn_L (K : Kn) (x : Ln) : (K.wLn x).L = K.L:=rfl
@[simp,go_sem] theorem Kn.wLn_sm (K : Kn) (x : Ln) : (K.wLn x).sm = K.sm:=rfl
@[simp,go_sem] theorem Kn.wLn_ml (K : Kn) (x : Ln) : (K.wLn x).ml = K.ml:=rfl
@[simp,go_sem] theorem Kn.wLn_ln (K : Kn) (x : Ln) : (K.wLn x).ln = x:=rfl
@[simp,go_sem] theorem Kn.wLn_reads (K : Kn) (x : Ln) : (K.wLn x).reads = K.reads:=rfl
@[simp,go_sem] theorem Kn.wLn_stopped (K : Kn) (x : Ln) : (K.wLn x).stopped = K.stopped:=rfl
@[simp] theorem Kn.wLn_self (K : Kn) : K.wLn K.ln = K:=rfl
@[simp] theorem Kn.wLn_wLn (K : Kn) (x y : Ln) : (K.wLn x).wLn y = K.wLn y:=rfl
@[simp,go_sem] theorem Kn.wReads_count (K : Kn) (x : Int) : (K.wReads x).count = K.count:=rfl
@[simp,go_sem] theorem Kn.wReads_cycle (K : Kn) (x : Int) : (K.wReads x).cycle = K.cycle:=rfl
@[simp,go_sem] theorem Kn.wReads_told (K : Kn) (x : Int) : (K.wReads x).told = K.told:=rfl
@[simp,go_sem] theorem Kn.wReads_S (K : Kn) (x : Int) : (K.wReads x).S = K.S:=rfl
@[simp,go_sem] theorem Kn.wReads_R (K : Kn) (x : Int) : (K.wReads x).R = K.R:=rfl
@[simp,go_sem] theorem Kn.wReads_run (K : Kn) (x : Int) : (K.wReads x).run = K.run:=rfl
@[simp,go_sem] theorem Kn.wReads_iat (K : Kn) (x : Int) : (K.wReads x).iat = K.iat:=rfl
@[simp,go_sem] theorem Kn.wReads_irg (K : Kn) (x : Int) : (K.wReads x).irg = K.irg:=rfl
@[simp,go_sem] theorem Kn.wReads_mems (K : Kn) (x : Int) : (K.wReads x).mems = K.mems:=rfl
@[simp,go_sem] theorem Kn.wReads_T (K : Kn) (x : Int) : (K.wReads x).T = K.T:=rfl
@[simp,go_sem] theorem Kn.wReads_tm (K : Kn) (x : Int) : (K.wReads x).tm = K.tm:=rfl
@[simp,go_sem] theorem Kn.wReads_L (K : Kn) (x : Int) : (K.wReads x).L = K.L:=rfl
@[simp,go_sem] theorem Kn.wReads_sm (K : Kn) (x : Int) : (K.wReads x).sm = K.sm:=rfl
@[simp,go_sem] theorem Kn.wReads_ml (K : Kn) (x : Int) : (K.wReads x).ml = K.ml:=rfl
@[simp,go_sem] theorem Kn.wReads_ln (K : Kn) (x : Int) : (K.wReads x).ln = K.ln:=rfl
@[simp,go_sem] theorem Kn.wReads_reads (K : Kn) (x : Int) : (K.wReads x).reads = x:=rfl
@[simp,go_sem] theorem Kn.wReads_stopped (K : Kn) (x : Int) : (K.wReads x).stopped = K.stopped:=rfl
@[simp] theorem Kn.wReads_self (K : Kn) : K.wReads K.reads = K:=rfl
@[simp] theorem Kn.wReads_wReads (K : Kn) (x y : Int) : (K.wReads x).wReads y = K.wReads y:=rfl
@[simp,go_sem] theorem Kn.wStopped_count (K : Kn) (x : Bool) : (K.wStopped x).count = K.count:=rfl
@[simp,go_sem] theorem Kn.wStopped_cycle (K : Kn) (x : Bool) : (K.wStopped x).cycle = K.cycle:=rfl
@[simp,go_sem] theorem Kn.wStopped_told (K : Kn) (x : Bool) : (K.wStopped x).told = K.told:=rfl
@[simp,go_sem] theorem Kn.wStopped_S (K : Kn) (x : Bool) : (K.wStopped x).S = K.S:=rfl
@[simp,go_sem] theorem Kn.wStopped_R (K : Kn) (x : Bool) : (K.wStopped x).R = K.R:=rfl
@[simp,go_sem] theorem Kn.wStopped_run (K : Kn) (x : Bool) : (K.wStopped x).run = K.run:=rfl
@[simp,go_sem] theorem Kn.wStopped_iat (K : Kn) (x : Bool) : (K.wStopped x).iat = K.iat:=rfl
@[simp,go_sem] theorem Kn.wStopped_irg (K : Kn) (x : Bool) : (K.wStopped x).irg = K.irg:=rfl
@[simp,go_sem] theorem Kn.wStopped_mems (K : Kn) (x : Bool) : (K.wStopped x).mems = K.mems:=rfl
@[simp,go_sem] theorem Kn.wStopped_T (K : Kn) (x : Bool) : (K.wStopped x).T = K.T:=rfl
@[simp,go_sem] theorem Kn.wStopped_tm (K : Kn) (x : Bool) : (K.wStopped x).tm = K.tm:=rfl
@[simp,go_sem] theorem Kn.wStopped_L (K : Kn) (x : Bool) : (K.wStopped x).L = K.L:=rfl
@[simp,go_sem] theorem Kn.wStopped_sm (K : Kn) (x : Bool) : (K.wStopped x).sm = K.sm:=rfl
@[simp,go_sem] theorem Kn.wStopped_ml (K : Kn) (x : Bool) : (K.wStopped x).ml = K.ml:=rfl
@[simp,go_sem] theorem Kn.wStopped_ln (K : Kn) (x : Bool) : (K.wStopped x).ln = K.ln:=rfl
@[simp,go_sem] theorem Kn.wStopped_reads (K : Kn) (x : Bool) : (K.wStopped x).reads = K.reads:=rfl
@[simp,go_sem] theorem Kn.wStopped_stopped (K : Kn) (x : Bool) : (K.wStopped x).stopped = x:=rfl
@[simp] theorem Kn.wStopped_self (K : Kn) : K.wStopped K.stopped = K:=rfl
@[simp] theorem Kn.wStopped_wStopped (K : Kn) (x y : Bool) : (K.wStopped x).wStopped y = K.wStopped y:=rfl
end Go.Proofs.YthcfimbidmogkaaGreatDoor
