/-
  Parts of the proof: AuditQ AuditU AuditV5 AuditV AuditW AuditR AuditS.
-/
import Derived.Test.YtkeommmigopnkaaGreatDoorKF8
import Derived.Test.YtkeommmigopnkaaGreatDoorKF9
set_option linter.unusedVariables false
set_option linter.unusedSimpArgs false
set_option maxHeartbeats 32000000
set_option maxRecDepth 100000
namespace Go.Proofs.YtkeommmigopnkaaGreatDoor
open Go.RowKit Go.Sx Go.Au
structure Tr where
 st:Int
 on:Int
 late:Int
 lev:Int
 job:Nat
def toTr (t:Tk):Tr:=⟨t.st,t.on,t.late,t.lev-1,t.job⟩
instance encTr:Enc Tr 5 where
 enc t:=[.int .i64 t.st,.int .i64 t.on,.int .i64 t.late,.int .i64 t.lev,.int .u32 t.job]
 len _:=rfl
 one t:=by intro u hu;simp at hu;rcases hu with rfl | rfl | rfl | rfl | rfl<;>rfl
 dft:=toTr tk0
 pos:=by decide
class SetR (x:Tk) (c:Nat) (v:Value) (x':outParam Tk):Prop where
 set_:encTr.enc (toTr x')=(encTr.enc (toTr x)).set c v
 lt:c<5
instance (x:Tk) (n:Int):SetR x 0 (.int .i64 n) { x with st:=n }:=⟨rfl,by decide⟩
instance (x:Tk) (n:Nat):SetR x 1 (.int .i64 n) { x with on:=n }:=⟨rfl,by decide⟩
instance (x:Tk) (n:Int):SetR x 2 (.int .i64 n) { x with late:=n }:=⟨rfl,by decide⟩
instance (x:Tk) (n:Int):SetR x 3 (.int .i64 n) { x with lev:=n+1 }:=⟨by show [_,_,_,Value.int .i64 (n+1-1),_]=_;rw [Int.add_sub_cancel];rfl,by decide⟩
instance (x:Tk) (n:Nat):SetR x 4 (.int .u32 n) { x with job:=n }:=⟨rfl,by decide⟩
theorem trAt {l:List Tk} {k:Nat} (h:k<l.length):(l.map toTr).getD k encTr.dft=toTr (tkg l k):=by
 unfold tkg;simp [List.getD,h]
theorem tr_cell {g off n cap k c:Nat} {l:List Tk} {v:Value} (h:k<l.length) (hc:(encTr.enc (toTr (tkg l k)))[c]?=some v) {w0 w:World} {F:HP} (hs:Sat w0 w (recsP (.slice (some ⟨g,off,none⟩) n cap) (l.map toTr)*F)):w.cell? ⟨g,off+k*5+c,none⟩=some v∧w.frozen? ⟨g,off+k*5+c,none⟩=false :=
 hs.recs_cell (by simpa using h) (by rw [trAt h];exact hc)
theorem tr_upd {g off n cap k c:Nat} {l:List Tk} {x':Tk} {v:Value} (h:k<l.length) (e:SetR (tkg l k) c v x') {w0 w:World} {F:HP} (hs:Sat w0 w (recsP (.slice (some ⟨g,off,none⟩) n cap) (l.map toTr)*F)):Sat w0 (w.setCell ⟨g,off+k*5+c,none⟩ v) (recsP (.slice (some ⟨g,off,none⟩) n cap) ((l.set k x').map toTr)*F):=by
 have:=recs_upd hs (k:=k) (c:=c) (v:=v) (x':=toTr x') (by simpa using h) e.lt (by rw [trAt h];exact e.set_)
 rwa [← List.map_set] at this
section
variable (g off n cap k:Nat) (l:List Tk) (x x':Tk) (v:Value) (c:Nat)
instance (priority:=1300) [h:Lt k l.length]:Cell (recsP (.slice (some ⟨g,off,none⟩) n cap) (l.map toTr)) g (off+k*5) (.int .i64 (tkg l k).st):=⟨fun hs=>(tr_cell (c:=0) h.lt rfl hs).1,fun hs=>(tr_cell (c:=0) h.lt rfl hs).2⟩
instance (priority:=1300) [h:Lt k l.length]:Cell (recsP (.slice (some ⟨g,off,none⟩) n cap) (l.map toTr)) g (off+k*5+1) (.int .i64 (tkg l k).on):=⟨fun hs=>(tr_cell h.lt rfl hs).1,fun hs=>(tr_cell h.lt rfl hs).2⟩
instance (priority:=1300) [h:Lt k l.length]:Cell (recsP (.slice (some ⟨g,off,none⟩) n cap) (l.map toTr)) g (off+k*5+2) (.int .i64 (tkg l k).late):=⟨fun hs=>(tr_cell h.lt rfl hs).1,fun hs=>(tr_cell h.lt rfl hs).2⟩
instance (priority:=1300) [h:Lt k l.length]:Cell (recsP (.slice (some ⟨g,off,none⟩) n cap) (l.map toTr)) g (off+k*5+3) (.int .i64 ((tkg l k).lev-1)):=⟨fun hs=>(tr_cell h.lt rfl hs).1,fun hs=>(tr_cell h.lt rfl hs).2⟩
instance (priority:=1300) [h:Lt k l.length]:Cell (recsP (.slice (some ⟨g,off,none⟩) n cap) (l.map toTr)) g (off+k*5+4) (.int .u32 (tkg l k).job):=⟨fun hs=>(tr_cell h.lt rfl hs).1,fun hs=>(tr_cell h.lt rfl hs).2⟩
theorem tkg_set (h:k<l.length):tkg (l.set k x) k=x:=by unfold tkg;exact getD_set_self h x tk0
instance (priority:=1400) [h:Lt k l.length]:Cell (recsP (.slice (some ⟨g,off,none⟩) n cap) ((l.set k x).map toTr)) g (off+k*5) (.int .i64 x.st):=⟨fun hs=>(tr_cell (c:=0) (by rw [List.length_set];exact h.lt) (by rw [tkg_set _ _ _ h.lt];rfl) hs).1,fun hs=>(tr_cell (c:=0) (by rw [List.length_set];exact h.lt) (by rw [tkg_set _ _ _ h.lt];rfl) hs).2⟩
instance (priority:=1400) [h:Lt k l.length]:Cell (recsP (.slice (some ⟨g,off,none⟩) n cap) ((l.set k x).map toTr)) g (off+k*5+1) (.int .i64 x.on):=⟨fun hs=>(tr_cell (by rw [List.length_set];exact h.lt) (by rw [tkg_set _ _ _ h.lt];rfl) hs).1,fun hs=>(tr_cell (by rw [List.length_set];exact h.lt) (by rw [tkg_set _ _ _ h.lt];rfl) hs).2⟩
instance (priority:=1400) [h:Lt k l.length]:Cell (recsP (.slice (some ⟨g,off,none⟩) n cap) ((l.set k x).map toTr)) g (off+k*5+2) (.int .i64 x.late):=⟨fun hs=>(tr_cell (by rw [List.length_set];exact h.lt) (by rw [tkg_set _ _ _ h.lt];rfl) hs).1,fun hs=>(tr_cell (by rw [List.length_set];exact h.lt) (by rw [tkg_set _ _ _ h.lt];rfl) hs).2⟩
instance (priority:=1300) [h:Lt k l.length] [e:SetR (tkg l k) c v x']:Upd (recsP (.slice (some ⟨g,off,none⟩) n cap) (l.map toTr)) g (off+k*5+c) v (recsP (.slice (some ⟨g,off,none⟩) n cap) ((l.set k x').map toTr)):=⟨fun hs=>tr_upd h.lt e hs⟩
instance (priority:=1310) [h:Lt k l.length] [e:SetR (tkg l k) 0 v x']:Upd (recsP (.slice (some ⟨g,off,none⟩) n cap) (l.map toTr)) g (off+k*5) v (recsP (.slice (some ⟨g,off,none⟩) n cap) ((l.set k x').map toTr)):=⟨fun hs=>tr_upd h.lt e hs⟩
theorem tr_upd2 (h:k<l.length) (e:SetR x c v x') {w0 w:World} {F:HP} (hs:Sat w0 w (recsP (.slice (some ⟨g,off,none⟩) n cap) ((l.set k x).map toTr)*F)):Sat w0 (w.setCell ⟨g,off+k*5+c,none⟩ v) (recsP (.slice (some ⟨g,off,none⟩) n cap) ((l.set k x').map toTr)*F):=by
 have:=tr_upd (l:=l.set k x) (k:=k) (c:=c) (v:=v) (x':=x') (by rw [List.length_set];exact h) (by rw [tkg_set _ _ _ h];exact e) hs
 rwa [List.set_set] at this
instance (priority:=1400) [h:Lt k l.length] [e:SetR x c v x']:Upd (recsP (.slice (some ⟨g,off,none⟩) n cap) ((l.set k x).map toTr)) g (off+k*5+c) v (recsP (.slice (some ⟨g,off,none⟩) n cap) ((l.set k x').map toTr)):=⟨fun hs=>tr_upd2 _ _ _ _ _ _ _ _ _ _ h.lt e hs⟩
instance (priority:=1410) [h:Lt k l.length] [e:SetR x 0 v x']:Upd (recsP (.slice (some ⟨g,off,none⟩) n cap) ((l.set k x).map toTr)) g (off+k*5) v (recsP (.slice (some ⟨g,off,none⟩) n cap) ((l.set k x').map toTr)):=⟨fun hs=>tr_upd2 _ _ _ _ _ _ _ _ _ _ h.lt e hs⟩
end
def dn (l:List Int):List Value:=l.map fun o=>.int .i64 (o-1)
theorem dn_get {l:List Int} {k:Nat} (h:k<l.length):(dn l)[k]?=some (.int .i64 (owg l k-1)):=by
 unfold dn owg;simp [List.getD,h]
theorem dn_set (l:List Int) (k:Nat) (n:Int):(dn l).set k (.int .i64 n)=dn (l.set k (n+1)):=by
 unfold dn;rw [List.map_set,Int.add_sub_cancel]
instance (priority:=1300) (b o k:Nat) (l:List Int) [h:Lt k l.length]:Cell (pts b o (dn l)) b (o+k) (.int .i64 (owg l k-1)):=⟨fun hs=>(pts_split hs (dn_get h.lt)).1,fun hs=>(pts_split hs (dn_get h.lt)).2⟩
instance (priority:=1300) (b o k:Nat) (n:Int) (l:List Int) [h:Lt k l.length]:Upd (pts b o (dn l)) b (o+k) (.int .i64 n) (pts b o (dn (l.set k (n+1)))) :=
 ⟨fun hs=>by rw [← dn_set];exact hs.set (by unfold dn;rw [List.length_map];exact h.lt) _⟩
def rn (r:Int):Int:=if r=0 then 255 else r-1
abbrev duEv (d:Du):Ev:=⟨d.k,0,0,d.a,d.b,0⟩
def rfV (b:Nat) (A:Au) (v:Value):HP :=
 pts b 0 [v]*(recsP v (A.ts.map toTr)*(pts b 1 (dn A.ow)*(pts b 33 (A.pn.map Value.bool)*(pts b 49 [.int .i64 (A.isr-1),.int .i64 (rn A.run)]*(pts b 51 (evCells A.last)*(pts b 57 (evCells (duEv A.due))*pts b 63 [.int .i64 A.seen,.bool false]))))))
def rfP (b:Nat) (A:Au):HP:=ex fun v=>rfV b A v
theorem rfP_out {w0 w:World} {F:HP} {b:Nat} {A:Au} (hA:AOk A) (hs:Sat w0 w (rfP b A*F)):∃ g off cap,64≤cap∧cap≤9223372036854775807 ∧
  Sat w0 w (pts b 0 [.slice (some ⟨g,off,none⟩) 64 cap]*(recsP (.slice (some ⟨g,off,none⟩) 64 cap) (A.ts.map toTr)*(pts b 1 (dn A.ow)*(pts b 33 (A.pn.map Value.bool)*(pts b 49 [.int .i64 (A.isr-1),.int .i64 (rn A.run)]*(pts b 51 (evCells A.last)*(pts b 57 (evCells (duEv A.due))*(pts b 63 [.int .i64 A.seen,.bool false]*F)))))))):=by
 obtain ⟨v,hs⟩:=hs.ex_out;have h1:Sat w0 w (recsP v (A.ts.map toTr)*(pts b 0 [v]*(pts b 1 (dn A.ow)*(pts b 33 (A.pn.map Value.bool)*(pts b 49 [.int .i64 (A.isr-1),.int .i64 (rn A.run)]*(pts b 51 (evCells A.last)*(pts b 57 (evCells (duEv A.due))*(pts b 63 [.int .i64 A.seen,.bool false]*F)))))))):=hs.perm (by unfold rfV;ac_rfl);obtain ⟨a,c,rfl⟩:=h1.recs_form;have hl:(A.ts.map toTr).length=64:=by rw [List.length_map,hA.lt]
 have hc:=h1.rdR.caps;obtain ⟨g,off,rfl⟩:=Sat.someR (E:=encTr) h1 a (A.ts.map toTr).length c (by omega);rw [hl] at h1 hc;unfold maxLen at hc;exact ⟨g,off,c,hc.2.1,by omega,h1.perm (by ac_rfl)⟩
theorem rfP_of {w0 w:World} {F:HP} {b:Nat} {A:Au} {v:Value} (hs:Sat w0 w (pts b 0 [v]*(recsP v (A.ts.map toTr)*(pts b 1 (dn A.ow)*(pts b 33 (A.pn.map Value.bool)*(pts b 49 [.int .i64 (A.isr-1),.int .i64 (rn A.run)]*(pts b 51 (evCells A.last)*(pts b 57 (evCells (duEv A.due))*(pts b 63 [.int .i64 A.seen,.bool false]*F))))))))):Sat w0 w (rfP b A*F) :=
 Sat.ex_in (f:=fun v=>rfV b A v) v (hs.perm (by unfold rfV;ac_rfl))
theorem rn_eq {r:Int} (h:0≤r∧r≤64) {x:Nat} (hx:x<64):(rn r==(x:Int))=decide (r=(x:Int)+1):=by
 unfold rn;rw [Bool.eq_iff_iff,beq_iff_eq,decide_eq_true_eq];split<;>omega
theorem rfActs (b:Nat) (A:Au) (x:Nat) (w0 w:World) (F:HP) (hs:Sat w0 w (rfP b A*F)) (hA:AOk A) (hx:x<80) :
  Calls Tryz.prog 100 #[.pointer (some ⟨b,0,none⟩),.int .i64 x] w fun e w'=>e=.returned (.bool (acts A x))∧w=w':=by
 obtain ⟨g,off,cap,c1,c2,hs⟩:=rfP_out hA hs;have Hl:=hid hA.lt;have hi:=hA.isr;have hr:=hA.run
 by_cases h1:x<64
 ·have d1:(x:Int)<64:=by omega
  have d1':decide ((x:Int)<64)=true:=by simp;omega
  haveI:Lt x A.ts.length:=⟨by have:=Hl.out;omega⟩;have Hres:Hid (acts A x=(decide (A.isr=0) && decide (A.run=(x:Int)+1) && decide ((tkg A.ts x).st=1))):=by unfold Hid acts;rw [if_pos h1];rfl
  have hrn:=rn_eq hr h1;have Hr:=hid hr;have Hi:=hid hi;clear hi hr
  by_cases h2:A.isr=0
  ·have d2:decide (A.isr-1<0)=true:=by simp;omega
   rw [decide_eq_true h2,Bool.true_and] at Hres;clear h2
   by_cases h3:A.run=(x:Int)+1
   ·rw [decide_eq_true h3] at hrn Hres;clear h3
    go_enter Tryz.func100,Tryz.ntmps100
    go_wp2;go_ret;exact ⟨retB (by rw [Hres.out,Bool.eq_iff_iff];simp),rfl⟩
   ·rw [decide_eq_false h3] at hrn Hres;clear h3
    go_enter Tryz.func100,Tryz.ntmps100
    go_wp2;go_ret;exact ⟨retB (by rw [Hres.out];rfl),rfl⟩
  ·have d2:decide (A.isr-1<0)=false:=by have:=Hi.out;simp;omega
   rw [decide_eq_false h2,Bool.false_and] at Hres;clear h2
   go_enter Tryz.func100,Tryz.ntmps100
   go_wp2;go_ret;exact ⟨retB (by rw [Hres.out];rfl),rfl⟩
 ·have d1:¬ (x:Int)<64:=by omega
  have d1':decide ((x:Int)<64)=false:=by simp;omega
  have d3:decide ((x:Int)<80)=true:=by simp;omega
  have Hres:Hid (acts A x=decide (A.isr=(x:Int)-63)):=by unfold Hid acts;rw [if_neg h1,if_pos hx]
  go_enter Tryz.func100,Tryz.ntmps100
  go_wp2;go_ret;exact ⟨retB (by rw [Hres.out,Bool.eq_iff_iff];simp;omega),rfl⟩
theorem rfActsX (b:Nat) (A:Au) (a:Nat) (x:Bool) (hx:acts A a=x) (w0 w:World) (F:HP) (hs:Sat w0 w (rfP b A*F)) (hA:AOk A) (ha:a<80) :
  Calls Tryz.prog 100 #[.pointer (some ⟨b,0,none⟩),.int .i64 a] w fun e w'=>e=.returned (.bool x)∧w=w':=by
 subst hx;exact rfActs b A a w0 w F hs hA ha
theorem rfIn (n lo hi:Nat) (w:World):Calls Tryz.prog 133 #[.int .u32 n,.int .u32 lo,.int .u32 hi] w fun e w'=>e=.returned (.bool (decide (lo≤n∧n≤hi)))∧w=w':=by
 by_cases h:lo≤n
 ·have d:decide ((lo:Int)≤(n:Int))=true:=by simp;omega
  go_enter Tryz.func133,Tryz.ntmps133
  go_wp2;go_ret;exact ⟨retB (by rw [Bool.eq_iff_iff];simp [h]),rfl⟩
 ·have d:decide ((lo:Int)≤(n:Int))=false:=by simp;omega
  go_enter Tryz.func133,Tryz.ntmps133
  go_wp2;go_ret;exact ⟨retB (by rw [Bool.eq_iff_iff];simp [h]),rfl⟩
theorem rfInX (n lo hi:Nat) (x:Bool) (hx:decide (lo≤n∧n≤hi)=x) (w:World):Calls Tryz.prog 133 #[.int .u32 n,.int .u32 lo,.int .u32 hi] w fun e w'=>e=.returned (.bool x)∧w=w':=by
 subst hx;exact rfIn n lo hi w
theorem rfFirst1 (a b v:Nat) (cy co:Int) (w0 w:World) (P:HP) [hs:Sat w0 w P]:Calls Tryz.prog 97 #[evA 1 a b v cy co] w (RetV w0 (.bool (win a (shp 1).1)) P):=by
 go_enter Tryz.func97,Tryz.ntmps97
 go_wp2_with fail;refine (rfInX a 0 15 _ rfl _).mono ?_;rintro e w' ⟨rfl,rfl⟩;go_wp2_with fail;go_ret;exact ⟨retB (by rw [Bool.eq_iff_iff];simp [win,shp]),own_left⟩
theorem rfFirst2 (a b v:Nat) (cy co:Int) (w0 w:World) (P:HP) [hs:Sat w0 w P]:Calls Tryz.prog 97 #[evA 2 a b v cy co] w (RetV w0 (.bool (win a (shp 2).1)) P):=by
 go_enter Tryz.func97,Tryz.ntmps97
 go_wp2_with fail;refine (rfInX a 0 15 _ rfl _).mono ?_;rintro e w' ⟨rfl,rfl⟩;go_wp2_with fail;go_ret;exact ⟨retB (by rw [Bool.eq_iff_iff];simp [win,shp]),own_left⟩
theorem rfFirst3 (a b v:Nat) (cy co:Int) (w0 w:World) (P:HP) [hs:Sat w0 w P]:Calls Tryz.prog 97 #[evA 3 a b v cy co] w (RetV w0 (.bool (win a (shp 3).1)) P):=by
 go_enter Tryz.func97,Tryz.ntmps97
 go_wp2_with fail;refine (rfInX a 0 15 _ rfl _).mono ?_;rintro e w' ⟨rfl,rfl⟩;go_wp2_with fail;go_ret;exact ⟨retB (by rw [Bool.eq_iff_iff];simp [win,shp]),own_left⟩
theorem rfFirst4 (a b v:Nat) (cy co:Int) (w0 w:World) (P:HP) [hs:Sat w0 w P]:Calls Tryz.prog 97 #[evA 4 a b v cy co] w (RetV w0 (.bool (win a (shp 4).1)) P):=by
 go_enter Tryz.func97,Tryz.ntmps97
 go_wp2_with fail;refine (rfInX a 0 15 _ rfl _).mono ?_;rintro e w' ⟨rfl,rfl⟩;go_wp2_with fail;go_ret;exact ⟨retB (by rw [Bool.eq_iff_iff];simp [win,shp]),own_left⟩
theorem rfFirst5 (a b v:Nat) (cy co:Int) (w0 w:World) (P:HP) [hs:Sat w0 w P]:Calls Tryz.prog 97 #[evA 5 a b v cy co] w (RetV w0 (.bool (win a (shp 5).1)) P):=by
 generalize hy:decide (0≤a∧a≤63)=y;have Hy:=hid hy;clear hy
 cases y
 all_goals
  go_enter Tryz.func97,Tryz.ntmps97
  go_wp2_with fail;refine (rfInX a 0 63 _ Hy.out _).mono ?_;rintro e w' ⟨rfl,rfl⟩;go_wp2_with fail;go_ret;refine ⟨retB ?_,own_left⟩;have h1:=Hy.out
  first
   | (have h2:=of_decide_eq_true h1;rw [Bool.eq_iff_iff];simp [win,shp];omega)
   | (have h2:=of_decide_eq_false h1;rw [Bool.eq_iff_iff];simp [win,shp];omega)
theorem rfFirst6 (a b v:Nat) (cy co:Int) (w0 w:World) (P:HP) [hs:Sat w0 w P]:Calls Tryz.prog 97 #[evA 6 a b v cy co] w (RetV w0 (.bool (win a (shp 6).1)) P):=by
 go_enter Tryz.func97,Tryz.ntmps97
 go_wp2_with fail;refine (rfInX a 0 63 _ rfl _).mono ?_;rintro e w' ⟨rfl,rfl⟩;go_wp2_with fail;go_ret;exact ⟨retB (by rw [Bool.eq_iff_iff];simp [win,shp]),own_left⟩
theorem rfFirst7 (a b v:Nat) (cy co:Int) (w0 w:World) (P:HP) [hs:Sat w0 w P]:Calls Tryz.prog 97 #[evA 7 a b v cy co] w (RetV w0 (.bool (win a (shp 7).1)) P):=by
 go_enter Tryz.func97,Tryz.ntmps97
 go_wp2_with fail;refine (rfInX a 0 63 _ rfl _).mono ?_;rintro e w' ⟨rfl,rfl⟩;go_wp2_with fail;go_ret;exact ⟨retB (by rw [Bool.eq_iff_iff];simp [win,shp]),own_left⟩
theorem rfFirst8 (a b v:Nat) (cy co:Int) (w0 w:World) (P:HP) [hs:Sat w0 w P]:Calls Tryz.prog 97 #[evA 8 a b v cy co] w (RetV w0 (.bool (win a (shp 8).1)) P):=by
 go_enter Tryz.func97,Tryz.ntmps97
 go_wp2_with fail;refine (rfInX a 0 63 _ rfl _).mono ?_;rintro e w' ⟨rfl,rfl⟩;go_wp2_with fail;go_ret;exact ⟨retB (by rw [Bool.eq_iff_iff];simp [win,shp]),own_left⟩
theorem rfFirst9 (a b v:Nat) (cy co:Int) (w0 w:World) (P:HP) [hs:Sat w0 w P]:Calls Tryz.prog 97 #[evA 9 a b v cy co] w (RetV w0 (.bool (win a (shp 9).1)) P):=by
 go_enter Tryz.func97,Tryz.ntmps97
 go_wp2_with fail;refine (rfInX a 0 63 _ rfl _).mono ?_;rintro e w' ⟨rfl,rfl⟩;go_wp2_with fail;go_ret;exact ⟨retB (by rw [Bool.eq_iff_iff];simp [win,shp]),own_left⟩
theorem rfFirst10 (a b v:Nat) (cy co:Int) (w0 w:World) (P:HP) [hs:Sat w0 w P]:Calls Tryz.prog 97 #[evA 10 a b v cy co] w (RetV w0 (.bool (win a (shp 10).1)) P):=by
 go_enter Tryz.func97,Tryz.ntmps97
 go_wp2_with fail;refine (rfInX a 0 63 _ rfl _).mono ?_;rintro e w' ⟨rfl,rfl⟩;go_wp2_with fail;go_ret;exact ⟨retB (by rw [Bool.eq_iff_iff];simp [win,shp]),own_left⟩
theorem rfFirst11 (a b v:Nat) (cy co:Int) (w0 w:World) (P:HP) [hs:Sat w0 w P]:Calls Tryz.prog 97 #[evA 11 a b v cy co] w (RetV w0 (.bool (win a (shp 11).1)) P):=by
 go_enter Tryz.func97,Tryz.ntmps97
 go_wp2_with fail;refine (rfInX a 0 63 _ rfl _).mono ?_;rintro e w' ⟨rfl,rfl⟩;go_wp2_with fail;go_ret;exact ⟨retB (by rw [Bool.eq_iff_iff];simp [win,shp]),own_left⟩
theorem rfFirst12 (a b v:Nat) (cy co:Int) (w0 w:World) (P:HP) [hs:Sat w0 w P]:Calls Tryz.prog 97 #[evA 12 a b v cy co] w (RetV w0 (.bool (win a (shp 12).1)) P):=by
 go_enter Tryz.func97,Tryz.ntmps97
 go_wp2_with fail;refine (rfInX a 0 63 _ rfl _).mono ?_;rintro e w' ⟨rfl,rfl⟩;go_wp2_with fail;go_ret;exact ⟨retB (by rw [Bool.eq_iff_iff];simp [win,shp]),own_left⟩
theorem rfFirst13 (a b v:Nat) (cy co:Int) (w0 w:World) (P:HP) [hs:Sat w0 w P]:Calls Tryz.prog 97 #[evA 13 a b v cy co] w (RetV w0 (.bool (win a (shp 13).1)) P):=by
 go_enter Tryz.func97,Tryz.ntmps97
 go_wp2_with fail;refine (rfInX a 0 63 _ rfl _).mono ?_;rintro e w' ⟨rfl,rfl⟩;go_wp2_with fail;go_ret;exact ⟨retB (by rw [Bool.eq_iff_iff];simp [win,shp]),own_left⟩
theorem rfFirst14 (a b v:Nat) (cy co:Int) (w0 w:World) (P:HP) [hs:Sat w0 w P]:Calls Tryz.prog 97 #[evA 14 a b v cy co] w (RetV w0 (.bool (win a (shp 14).1)) P):=by
 go_enter Tryz.func97,Tryz.ntmps97
 go_wp2_with fail;refine (rfInX a 0 80 _ rfl _).mono ?_;rintro e w' ⟨rfl,rfl⟩;go_wp2_with fail;go_ret;exact ⟨retB (by rw [Bool.eq_iff_iff];simp [win,shp]),own_left⟩
theorem rfFirst15 (a b v:Nat) (cy co:Int) (w0 w:World) (P:HP) [hs:Sat w0 w P]:Calls Tryz.prog 97 #[evA 15 a b v cy co] w (RetV w0 (.bool (win a (shp 15).1)) P):=by
 go_enter Tryz.func97,Tryz.ntmps97
 go_wp2_with fail;refine (rfInX a 0 63 _ rfl _).mono ?_;rintro e w' ⟨rfl,rfl⟩;go_wp2_with fail;go_ret;exact ⟨retB (by rw [Bool.eq_iff_iff];simp [win,shp]),own_left⟩
theorem rfFirst16 (a b v:Nat) (cy co:Int) (w0 w:World) (P:HP) [hs:Sat w0 w P]:Calls Tryz.prog 97 #[evA 16 a b v cy co] w (RetV w0 (.bool (win a (shp 16).1)) P):=by
 go_enter Tryz.func97,Tryz.ntmps97
 go_wp2_with fail;refine (rfInX a 0 79 _ rfl _).mono ?_;rintro e w' ⟨rfl,rfl⟩;go_wp2_with fail;go_ret;exact ⟨retB (by rw [Bool.eq_iff_iff];simp [win,shp]),own_left⟩
theorem rfFirst17 (a b v:Nat) (cy co:Int) (w0 w:World) (P:HP) [hs:Sat w0 w P]:Calls Tryz.prog 97 #[evA 17 a b v cy co] w (RetV w0 (.bool (win a (shp 17).1)) P):=by
 go_enter Tryz.func97,Tryz.ntmps97
 go_wp2_with fail;refine (rfInX a 0 79 _ rfl _).mono ?_;rintro e w' ⟨rfl,rfl⟩;go_wp2_with fail;go_ret;exact ⟨retB (by rw [Bool.eq_iff_iff];simp [win,shp]),own_left⟩
theorem rfFirst18 (a b v:Nat) (cy co:Int) (w0 w:World) (P:HP) [hs:Sat w0 w P]:Calls Tryz.prog 97 #[evA 18 a b v cy co] w (RetV w0 (.bool (win a (shp 18).1)) P):=by
 go_enter Tryz.func97,Tryz.ntmps97
 go_wp2_with fail;refine (rfInX a 0 31 _ rfl _).mono ?_;rintro e w' ⟨rfl,rfl⟩;go_wp2_with fail;go_ret;exact ⟨retB (by rw [Bool.eq_iff_iff];simp [win,shp]),own_left⟩
theorem rfFirst19 (a b v:Nat) (cy co:Int) (w0 w:World) (P:HP) [hs:Sat w0 w P]:Calls Tryz.prog 97 #[evA 19 a b v cy co] w (RetV w0 (.bool (win a (shp 19).1)) P):=by
 go_enter Tryz.func97,Tryz.ntmps97
 go_wp2_with fail;refine (rfInX a 0 79 _ rfl _).mono ?_;rintro e w' ⟨rfl,rfl⟩;go_wp2_with fail;go_ret;exact ⟨retB (by rw [Bool.eq_iff_iff];simp [win,shp]),own_left⟩
theorem rfFirst20 (a b v:Nat) (cy co:Int) (w0 w:World) (P:HP) [hs:Sat w0 w P]:Calls Tryz.prog 97 #[evA 20 a b v cy co] w (RetV w0 (.bool (win a (shp 20).1)) P):=by
 go_enter Tryz.func97,Tryz.ntmps97
 go_wp2_with fail;refine (rfInX a 0 15 _ rfl _).mono ?_;rintro e w' ⟨rfl,rfl⟩;go_wp2_with fail;go_ret;exact ⟨retB (by rw [Bool.eq_iff_iff];simp [win,shp]),own_left⟩
theorem rfFirst21 (a b v:Nat) (cy co:Int) (w0 w:World) (P:HP) [hs:Sat w0 w P]:Calls Tryz.prog 97 #[evA 21 a b v cy co] w (RetV w0 (.bool (win a (shp 21).1)) P):=by
 go_enter Tryz.func97,Tryz.ntmps97
 go_wp2_with fail;refine (rfInX a 0 79 _ rfl _).mono ?_;rintro e w' ⟨rfl,rfl⟩;go_wp2_with fail;go_ret;exact ⟨retB (by rw [Bool.eq_iff_iff];simp [win,shp]),own_left⟩
theorem rfFirst22 (a b v:Nat) (cy co:Int) (w0 w:World) (P:HP) [hs:Sat w0 w P]:Calls Tryz.prog 97 #[evA 22 a b v cy co] w (RetV w0 (.bool (win a (shp 22).1)) P):=by
 go_enter Tryz.func97,Tryz.ntmps97
 go_wp2_with fail;refine (rfInX a 0 63 _ rfl _).mono ?_;rintro e w' ⟨rfl,rfl⟩;go_wp2_with fail;go_ret;exact ⟨retB (by rw [Bool.eq_iff_iff];simp [win,shp]),own_left⟩
theorem rfFirst23 (a b v:Nat) (cy co:Int) (w0 w:World) (P:HP) [hs:Sat w0 w P]:Calls Tryz.prog 97 #[evA 23 a b v cy co] w (RetV w0 (.bool (win a (shp 23).1)) P):=by
 go_enter Tryz.func97,Tryz.ntmps97
 go_wp2_with fail;refine (rfInX a 0 80 _ rfl _).mono ?_;rintro e w' ⟨rfl,rfl⟩;go_wp2_with fail;go_ret;exact ⟨retB (by rw [Bool.eq_iff_iff];simp [win,shp]),own_left⟩
theorem rfFirst24 (a b v:Nat) (cy co:Int) (w0 w:World) (P:HP) [hs:Sat w0 w P]:Calls Tryz.prog 97 #[evA 24 a b v cy co] w (RetV w0 (.bool (win a (shp 24).1)) P):=by
 go_enter Tryz.func97,Tryz.ntmps97
 go_wp2_with fail;go_ret;exact ⟨retB (by rw [Bool.eq_iff_iff];simp [win,shp]),own_left⟩
theorem rfFirst (k a b v:Nat) (hk:1≤k∧k≤24) (cy co:Int) (w0 w:World) (P:HP) [hs:Sat w0 w P]:Calls Tryz.prog 97 #[evA k a b v cy co] w (RetV w0 (.bool (win a (shp k).1)) P):=by
 have h:k=1∨k=2∨k=3∨k=4∨k=5∨k=6∨k=7∨k=8∨k=9∨k=10∨k=11∨k=12∨k=13∨k=14∨k=15∨k=16∨k=17∨k=18∨k=19∨k=20∨k=21∨k=22∨k=23∨k=24:=by omega
 rcases h with rfl | rfl | rfl | rfl | rfl | rfl | rfl | rfl | rfl | rfl | rfl | rfl | rfl | rfl | rfl | rfl | rfl | rfl | rfl | rfl | rfl | rfl | rfl | rfl
 ·exact rfFirst1 a b v cy co w0 w P
 ·exact rfFirst2 a b v cy co w0 w P
 ·exact rfFirst3 a b v cy co w0 w P
 ·exact rfFirst4 a b v cy co w0 w P
 ·exact rfFirst5 a b v cy co w0 w P
 ·exact rfFirst6 a b v cy co w0 w P
 ·exact rfFirst7 a b v cy co w0 w P
 ·exact rfFirst8 a b v cy co w0 w P
 ·exact rfFirst9 a b v cy co w0 w P
 ·exact rfFirst10 a b v cy co w0 w P
 ·exact rfFirst11 a b v cy co w0 w P
 ·exact rfFirst12 a b v cy co w0 w P
 ·exact rfFirst13 a b v cy co w0 w P
 ·exact rfFirst14 a b v cy co w0 w P
 ·exact rfFirst15 a b v cy co w0 w P
 ·exact rfFirst16 a b v cy co w0 w P
 ·exact rfFirst17 a b v cy co w0 w P
 ·exact rfFirst18 a b v cy co w0 w P
 ·exact rfFirst19 a b v cy co w0 w P
 ·exact rfFirst20 a b v cy co w0 w P
 ·exact rfFirst21 a b v cy co w0 w P
 ·exact rfFirst22 a b v cy co w0 w P
 ·exact rfFirst23 a b v cy co w0 w P
 ·exact rfFirst24 a b v cy co w0 w P
theorem rfThird1 (a b v:Nat) (cy co:Int) (w0 w:World) (P:HP) [hs:Sat w0 w P]:Calls Tryz.prog 99 #[evA 1 a b v cy co] w (RetV w0 (.bool (win v (shp 1).2.2)) P):=by
 go_enter Tryz.func99,Tryz.ntmps99
 go_wp2_with fail;go_ret;exact ⟨retB (by rw [Bool.eq_iff_iff];simp [win,shp]),own_left⟩
theorem rfThird2 (a b v:Nat) (cy co:Int) (w0 w:World) (P:HP) [hs:Sat w0 w P]:Calls Tryz.prog 99 #[evA 2 a b v cy co] w (RetV w0 (.bool (win v (shp 2).2.2)) P):=by
 go_enter Tryz.func99,Tryz.ntmps99
 go_wp2_with fail;go_ret;exact ⟨rfl,own_left⟩
theorem rfThird3 (a b v:Nat) (cy co:Int) (w0 w:World) (P:HP) [hs:Sat w0 w P]:Calls Tryz.prog 99 #[evA 3 a b v cy co] w (RetV w0 (.bool (win v (shp 3).2.2)) P):=by
 go_enter Tryz.func99,Tryz.ntmps99
 go_wp2_with fail;go_ret;exact ⟨retB (by rw [Bool.eq_iff_iff];simp [win,shp]),own_left⟩
theorem rfThird4 (a b v:Nat) (cy co:Int) (w0 w:World) (P:HP) [hs:Sat w0 w P]:Calls Tryz.prog 99 #[evA 4 a b v cy co] w (RetV w0 (.bool (win v (shp 4).2.2)) P):=by
 go_enter Tryz.func99,Tryz.ntmps99
 go_wp2_with fail;go_ret;exact ⟨retB (by rw [Bool.eq_iff_iff];simp [win,shp]),own_left⟩
theorem rfThird5 (a b v:Nat) (cy co:Int) (w0 w:World) (P:HP) [hs:Sat w0 w P]:Calls Tryz.prog 99 #[evA 5 a b v cy co] w (RetV w0 (.bool (win v (shp 5).2.2)) P):=by
 go_enter Tryz.func99,Tryz.ntmps99
 go_wp2_with fail;go_ret;exact ⟨retB (by rw [Bool.eq_iff_iff];simp [win,shp]),own_left⟩
theorem rfThird6 (a b v:Nat) (cy co:Int) (w0 w:World) (P:HP) [hs:Sat w0 w P]:Calls Tryz.prog 99 #[evA 6 a b v cy co] w (RetV w0 (.bool (win v (shp 6).2.2)) P):=by
 go_enter Tryz.func99,Tryz.ntmps99
 go_wp2_with fail;go_ret;exact ⟨rfl,own_left⟩
theorem rfThird7 (a b v:Nat) (cy co:Int) (w0 w:World) (P:HP) [hs:Sat w0 w P]:Calls Tryz.prog 99 #[evA 7 a b v cy co] w (RetV w0 (.bool (win v (shp 7).2.2)) P):=by
 go_enter Tryz.func99,Tryz.ntmps99
 go_wp2_with fail;refine (rfInX v 1 255 _ rfl _).mono ?_;rintro e w' ⟨rfl,rfl⟩;go_wp2_with fail;go_ret;exact ⟨retB (by rw [Bool.eq_iff_iff];simp [win,shp]),own_left⟩
theorem rfThird8 (a b v:Nat) (cy co:Int) (w0 w:World) (P:HP) [hs:Sat w0 w P]:Calls Tryz.prog 99 #[evA 8 a b v cy co] w (RetV w0 (.bool (win v (shp 8).2.2)) P):=by
 go_enter Tryz.func99,Tryz.ntmps99
 go_wp2_with fail;go_ret;exact ⟨rfl,own_left⟩
theorem rfThird9 (a b v:Nat) (cy co:Int) (w0 w:World) (P:HP) [hs:Sat w0 w P]:Calls Tryz.prog 99 #[evA 9 a b v cy co] w (RetV w0 (.bool (win v (shp 9).2.2)) P):=by
 go_enter Tryz.func99,Tryz.ntmps99
 go_wp2_with fail;go_ret;exact ⟨retB (by rw [Bool.eq_iff_iff];simp [win,shp]),own_left⟩
theorem rfThird10 (a b v:Nat) (cy co:Int) (w0 w:World) (P:HP) [hs:Sat w0 w P]:Calls Tryz.prog 99 #[evA 10 a b v cy co] w (RetV w0 (.bool (win v (shp 10).2.2)) P):=by
 go_enter Tryz.func99,Tryz.ntmps99
 go_wp2_with fail;go_ret;exact ⟨retB (by rw [Bool.eq_iff_iff];simp [win,shp]),own_left⟩
theorem rfThird11 (a b v:Nat) (cy co:Int) (w0 w:World) (P:HP) [hs:Sat w0 w P]:Calls Tryz.prog 99 #[evA 11 a b v cy co] w (RetV w0 (.bool (win v (shp 11).2.2)) P):=by
 go_enter Tryz.func99,Tryz.ntmps99
 go_wp2_with fail;go_ret;exact ⟨retB (by rw [Bool.eq_iff_iff];simp [win,shp]),own_left⟩
theorem rfThird12 (a b v:Nat) (cy co:Int) (w0 w:World) (P:HP) [hs:Sat w0 w P]:Calls Tryz.prog 99 #[evA 12 a b v cy co] w (RetV w0 (.bool (win v (shp 12).2.2)) P):=by
 go_enter Tryz.func99,Tryz.ntmps99
 go_wp2_with fail;go_ret;exact ⟨retB (by rw [Bool.eq_iff_iff];simp [win,shp]),own_left⟩
theorem rfThird13 (a b v:Nat) (cy co:Int) (w0 w:World) (P:HP) [hs:Sat w0 w P]:Calls Tryz.prog 99 #[evA 13 a b v cy co] w (RetV w0 (.bool (win v (shp 13).2.2)) P):=by
 go_enter Tryz.func99,Tryz.ntmps99
 go_wp2_with fail;go_ret;exact ⟨retB (by rw [Bool.eq_iff_iff];simp [win,shp]),own_left⟩
theorem rfThird14 (a b v:Nat) (cy co:Int) (w0 w:World) (P:HP) [hs:Sat w0 w P]:Calls Tryz.prog 99 #[evA 14 a b v cy co] w (RetV w0 (.bool (win v (shp 14).2.2)) P):=by
 go_enter Tryz.func99,Tryz.ntmps99
 go_wp2_with fail;refine (rfInX v 0 255 _ rfl _).mono ?_;rintro e w' ⟨rfl,rfl⟩;go_wp2_with fail;go_ret;exact ⟨retB (by rw [Bool.eq_iff_iff];simp [win,shp]),own_left⟩
theorem rfThird15 (a b v:Nat) (cy co:Int) (w0 w:World) (P:HP) [hs:Sat w0 w P]:Calls Tryz.prog 99 #[evA 15 a b v cy co] w (RetV w0 (.bool (win v (shp 15).2.2)) P):=by
 go_enter Tryz.func99,Tryz.ntmps99
 go_wp2_with fail;refine (rfInX v 0 255 _ rfl _).mono ?_;rintro e w' ⟨rfl,rfl⟩;go_wp2_with fail;go_ret;exact ⟨retB (by rw [Bool.eq_iff_iff];simp [win,shp]),own_left⟩
theorem rfThird16 (a b v:Nat) (cy co:Int) (w0 w:World) (P:HP) [hs:Sat w0 w P]:Calls Tryz.prog 99 #[evA 16 a b v cy co] w (RetV w0 (.bool (win v (shp 16).2.2)) P):=by
 go_enter Tryz.func99,Tryz.ntmps99
 go_wp2_with fail;go_ret;exact ⟨rfl,own_left⟩
theorem rfThird17 (a b v:Nat) (cy co:Int) (w0 w:World) (P:HP) [hs:Sat w0 w P]:Calls Tryz.prog 99 #[evA 17 a b v cy co] w (RetV w0 (.bool (win v (shp 17).2.2)) P):=by
 go_enter Tryz.func99,Tryz.ntmps99
 go_wp2_with fail;go_ret;exact ⟨rfl,own_left⟩
theorem rfThird18 (a b v:Nat) (cy co:Int) (w0 w:World) (P:HP) [hs:Sat w0 w P]:Calls Tryz.prog 99 #[evA 18 a b v cy co] w (RetV w0 (.bool (win v (shp 18).2.2)) P):=by
 go_enter Tryz.func99,Tryz.ntmps99
 go_wp2_with fail;go_ret;exact ⟨retB (by rw [Bool.eq_iff_iff];simp [win,shp]),own_left⟩
theorem rfThird19 (a b v:Nat) (cy co:Int) (w0 w:World) (P:HP) [hs:Sat w0 w P]:Calls Tryz.prog 99 #[evA 19 a b v cy co] w (RetV w0 (.bool (win v (shp 19).2.2)) P):=by
 go_enter Tryz.func99,Tryz.ntmps99
 go_wp2_with fail;go_ret;exact ⟨rfl,own_left⟩
theorem rfThird20 (a b v:Nat) (cy co:Int) (w0 w:World) (P:HP) [hs:Sat w0 w P]:Calls Tryz.prog 99 #[evA 20 a b v cy co] w (RetV w0 (.bool (win v (shp 20).2.2)) P):=by
 go_enter Tryz.func99,Tryz.ntmps99
 go_wp2_with fail;go_ret;exact ⟨rfl,own_left⟩
theorem rfThird21 (a b v:Nat) (cy co:Int) (w0 w:World) (P:HP) [hs:Sat w0 w P]:Calls Tryz.prog 99 #[evA 21 a b v cy co] w (RetV w0 (.bool (win v (shp 21).2.2)) P):=by
 go_enter Tryz.func99,Tryz.ntmps99
 go_wp2_with fail;go_ret;exact ⟨retB (by rw [Bool.eq_iff_iff];simp [win,shp]),own_left⟩
theorem rfThird22 (a b v:Nat) (cy co:Int) (w0 w:World) (P:HP) [hs:Sat w0 w P]:Calls Tryz.prog 99 #[evA 22 a b v cy co] w (RetV w0 (.bool (win v (shp 22).2.2)) P):=by
 go_enter Tryz.func99,Tryz.ntmps99
 go_wp2_with fail;go_ret;exact ⟨retB (by rw [Bool.eq_iff_iff];simp [win,shp]),own_left⟩
theorem rfThird23 (a b v:Nat) (cy co:Int) (w0 w:World) (P:HP) [hs:Sat w0 w P]:Calls Tryz.prog 99 #[evA 23 a b v cy co] w (RetV w0 (.bool (win v (shp 23).2.2)) P):=by
 go_enter Tryz.func99,Tryz.ntmps99
 go_wp2_with fail;refine (rfInX v 0 38 _ rfl _).mono ?_;rintro e w' ⟨rfl,rfl⟩;go_wp2_with fail;go_ret;exact ⟨retB (by rw [Bool.eq_iff_iff];simp [win,shp]),own_left⟩
theorem rfThird24 (a b v:Nat) (cy co:Int) (w0 w:World) (P:HP) [hs:Sat w0 w P]:Calls Tryz.prog 99 #[evA 24 a b v cy co] w (RetV w0 (.bool (win v (shp 24).2.2)) P):=by
 go_enter Tryz.func99,Tryz.ntmps99
 go_wp2_with fail;go_ret;exact ⟨retB (by rw [Bool.eq_iff_iff];simp [win,shp]),own_left⟩
theorem rfThird (k a b v:Nat) (hk:1≤k∧k≤24) (cy co:Int) (w0 w:World) (P:HP) [hs:Sat w0 w P]:Calls Tryz.prog 99 #[evA k a b v cy co] w (RetV w0 (.bool (win v (shp k).2.2)) P):=by
 have h:k=1∨k=2∨k=3∨k=4∨k=5∨k=6∨k=7∨k=8∨k=9∨k=10∨k=11∨k=12∨k=13∨k=14∨k=15∨k=16∨k=17∨k=18∨k=19∨k=20∨k=21∨k=22∨k=23∨k=24:=by omega
 rcases h with rfl | rfl | rfl | rfl | rfl | rfl | rfl | rfl | rfl | rfl | rfl | rfl | rfl | rfl | rfl | rfl | rfl | rfl | rfl | rfl | rfl | rfl | rfl | rfl
 ·exact rfThird1 a b v cy co w0 w P
 ·exact rfThird2 a b v cy co w0 w P
 ·exact rfThird3 a b v cy co w0 w P
 ·exact rfThird4 a b v cy co w0 w P
 ·exact rfThird5 a b v cy co w0 w P
 ·exact rfThird6 a b v cy co w0 w P
 ·exact rfThird7 a b v cy co w0 w P
 ·exact rfThird8 a b v cy co w0 w P
 ·exact rfThird9 a b v cy co w0 w P
 ·exact rfThird10 a b v cy co w0 w P
 ·exact rfThird11 a b v cy co w0 w P
 ·exact rfThird12 a b v cy co w0 w P
 ·exact rfThird13 a b v cy co w0 w P
 ·exact rfThird14 a b v cy co w0 w P
 ·exact rfThird15 a b v cy co w0 w P
 ·exact rfThird16 a b v cy co w0 w P
 ·exact rfThird17 a b v cy co w0 w P
 ·exact rfThird18 a b v cy co w0 w P
 ·exact rfThird19 a b v cy co w0 w P
 ·exact rfThird20 a b v cy co w0 w P
 ·exact rfThird21 a b v cy co w0 w P
 ·exact rfThird22 a b v cy co w0 w P
 ·exact rfThird23 a b v cy co w0 w P
 ·exact rfThird24 a b v cy co w0 w P
theorem rfSecond5 (a b v:Nat) (cy co:Int) (w0 w:World) (P:HP) [hs:Sat w0 w P]:Calls Tryz.prog 98 #[evA 5 a b v cy co] w (RetV w0 (.bool (win b (shp 5).2.1 && !(decide (5=5) && decide (a=b)))) P):=by
 have hq5:(win b (shp 5).2.1 && !(decide (5=5) && decide (a=b)))=(win b 8 && !decide (a=b)):=by simp [shp]
 rw [hq5];have Hq:Hid (win b 8=decide (b<64∨b=255)):=rfl
 by_cases ha:a=b
 ·subst ha;rw [show decide (a=a)=true by simp]
  by_cases h1:a<64
  ·have h2:decide (0≤a∧a≤63)=true:=by simp;omega
   go_enter Tryz.func98,Tryz.ntmps98
   go_wp2_with fail;refine (rfInX a 0 63 _ h2 _).mono ?_;rintro e w' ⟨rfl,rfl⟩;go_wp2_with fail;go_ret;exact ⟨retB (by simp),own_left⟩
  ·have h2:decide (0≤a∧a≤63)=false:=by simp;omega
   by_cases h3:a=255
   ·have h4:((a:Int)==255)=true:=by simp [h3]
    have H3:=hid h3;clear h3
    go_enter Tryz.func98,Tryz.ntmps98
    go_wp2_with fail;refine (rfInX a 0 63 _ h2 _).mono ?_;rintro e w' ⟨rfl,rfl⟩;go_wp2_with fail;go_ret;exact ⟨retB (by simp),own_left⟩
   ·have h4:((a:Int)==255)=false:=by simp;omega
    go_enter Tryz.func98,Tryz.ntmps98
    go_wp2_with fail;refine (rfInX a 0 63 _ h2 _).mono ?_;rintro e w' ⟨rfl,rfl⟩;go_wp2_with fail;go_ret;exact ⟨retB (by simp),own_left⟩
 ·have hne:((b:Int) != (a:Int))=true:=by simp;omega
  rw [show decide (a=b)=false by simp [ha]]
  by_cases h1:b<64
  ·have h2:decide (0≤b∧b≤63)=true:=by simp;omega
   go_enter Tryz.func98,Tryz.ntmps98
   go_wp2_with fail;refine (rfInX b 0 63 _ h2 _).mono ?_;rintro e w' ⟨rfl,rfl⟩;go_wp2_with fail;go_ret;exact ⟨retB (by rw [Hq.out];simp [h1]),own_left⟩
  ·have h2:decide (0≤b∧b≤63)=false:=by simp;omega
   by_cases h3:b=255
   ·have h4:((b:Int)==255)=true:=by simp [h3]
    have H3:=hid h3;clear h3
    go_enter Tryz.func98,Tryz.ntmps98
    go_wp2_with fail;refine (rfInX b 0 63 _ h2 _).mono ?_;rintro e w' ⟨rfl,rfl⟩;go_wp2_with fail;go_ret;exact ⟨retB (by rw [Hq.out];simp [H3.out]),own_left⟩
   ·have h4:((b:Int)==255)=false:=by simp;omega
    go_enter Tryz.func98,Tryz.ntmps98
    go_wp2_with fail;refine (rfInX b 0 63 _ h2 _).mono ?_;rintro e w' ⟨rfl,rfl⟩;go_wp2_with fail;go_ret;exact ⟨retB (by rw [Hq.out];simp [h1,h3]),own_left⟩
theorem rfSecond1 (a b v:Nat) (cy co:Int) (w0 w:World) (P:HP) [hs:Sat w0 w P]:Calls Tryz.prog 98 #[evA 1 a b v cy co] w (RetV w0 (.bool (win b (shp 1).2.1 && !(decide (1=5) && decide (a=b)))) P):=by
 go_enter Tryz.func98,Tryz.ntmps98
 go_wp2_with fail;refine (rfInX b 0 1 _ rfl _).mono ?_;rintro e w' ⟨rfl,rfl⟩;go_wp2_with fail;go_ret;exact ⟨retB (by rw [Bool.eq_iff_iff];simp [win,shp]),own_left⟩
theorem rfSecond2 (a b v:Nat) (cy co:Int) (w0 w:World) (P:HP) [hs:Sat w0 w P]:Calls Tryz.prog 98 #[evA 2 a b v cy co] w (RetV w0 (.bool (win b (shp 2).2.1 && !(decide (2=5) && decide (a=b)))) P):=by
 go_enter Tryz.func98,Tryz.ntmps98
 go_wp2_with fail;refine (rfInX b 0 79 _ rfl _).mono ?_;rintro e w' ⟨rfl,rfl⟩;go_wp2_with fail;go_ret;exact ⟨retB (by rw [Bool.eq_iff_iff];simp [win,shp]),own_left⟩
theorem rfSecond3 (a b v:Nat) (cy co:Int) (w0 w:World) (P:HP) [hs:Sat w0 w P]:Calls Tryz.prog 98 #[evA 3 a b v cy co] w (RetV w0 (.bool (win b (shp 3).2.1 && !(decide (3=5) && decide (a=b)))) P):=by
 go_enter Tryz.func98,Tryz.ntmps98
 go_wp2_with fail;go_ret;exact ⟨retB (by rw [Bool.eq_iff_iff];simp [win,shp]),own_left⟩
theorem rfSecond4 (a b v:Nat) (cy co:Int) (w0 w:World) (P:HP) [hs:Sat w0 w P]:Calls Tryz.prog 98 #[evA 4 a b v cy co] w (RetV w0 (.bool (win b (shp 4).2.1 && !(decide (4=5) && decide (a=b)))) P):=by
 go_enter Tryz.func98,Tryz.ntmps98
 go_wp2_with fail;go_ret;exact ⟨retB (by rw [Bool.eq_iff_iff];simp [win,shp]),own_left⟩
theorem rfSecond6 (a b v:Nat) (cy co:Int) (w0 w:World) (P:HP) [hs:Sat w0 w P]:Calls Tryz.prog 98 #[evA 6 a b v cy co] w (RetV w0 (.bool (win b (shp 6).2.1 && !(decide (6=5) && decide (a=b)))) P):=by
 go_enter Tryz.func98,Tryz.ntmps98
 go_wp2_with fail;go_ret;exact ⟨retB (by rw [Bool.eq_iff_iff];simp [win,shp]),own_left⟩
theorem rfSecond7 (a b v:Nat) (cy co:Int) (w0 w:World) (P:HP) [hs:Sat w0 w P]:Calls Tryz.prog 98 #[evA 7 a b v cy co] w (RetV w0 (.bool (win b (shp 7).2.1 && !(decide (7=5) && decide (a=b)))) P):=by
 go_enter Tryz.func98,Tryz.ntmps98
 go_wp2_with fail;go_ret;exact ⟨retB (by rw [Bool.eq_iff_iff];simp [win,shp]),own_left⟩
theorem rfSecond8 (a b v:Nat) (cy co:Int) (w0 w:World) (P:HP) [hs:Sat w0 w P]:Calls Tryz.prog 98 #[evA 8 a b v cy co] w (RetV w0 (.bool (win b (shp 8).2.1 && !(decide (8=5) && decide (a=b)))) P):=by
 go_enter Tryz.func98,Tryz.ntmps98
 go_wp2_with fail;go_ret;exact ⟨retB (by rw [Bool.eq_iff_iff];simp [win,shp]),own_left⟩
theorem rfSecond9 (a b v:Nat) (cy co:Int) (w0 w:World) (P:HP) [hs:Sat w0 w P]:Calls Tryz.prog 98 #[evA 9 a b v cy co] w (RetV w0 (.bool (win b (shp 9).2.1 && !(decide (9=5) && decide (a=b)))) P):=by
 by_cases hq:b=0
 ·have e0:((b:Int)==0)=true:=by simp [hq]
  go_enter Tryz.func98,Tryz.ntmps98
  go_wp2_with fail;go_ret;exact ⟨retB (by rw [Bool.eq_iff_iff];simp [win,shp,hq]),own_left⟩
 ·have e0:((b:Int)==0)=false:=by simp;omega
  go_enter Tryz.func98,Tryz.ntmps98
  go_wp2_with fail;refine (rfInX b 32 159 _ rfl _).mono ?_;rintro e w' ⟨rfl,rfl⟩;go_wp2_with fail;go_ret;exact ⟨retB (by rw [Bool.eq_iff_iff];simp [win,shp,hq];omega),own_left⟩
theorem rfSecond10 (a b v:Nat) (cy co:Int) (w0 w:World) (P:HP) [hs:Sat w0 w P]:Calls Tryz.prog 98 #[evA 10 a b v cy co] w (RetV w0 (.bool (win b (shp 10).2.1 && !(decide (10=5) && decide (a=b)))) P):=by
 go_enter Tryz.func98,Tryz.ntmps98
 go_wp2_with fail;refine (rfInX b 0 1 _ rfl _).mono ?_;rintro e w' ⟨rfl,rfl⟩;go_wp2_with fail;go_ret;exact ⟨retB (by rw [Bool.eq_iff_iff];simp [win,shp]),own_left⟩
theorem rfSecond11 (a b v:Nat) (cy co:Int) (w0 w:World) (P:HP) [hs:Sat w0 w P]:Calls Tryz.prog 98 #[evA 11 a b v cy co] w (RetV w0 (.bool (win b (shp 11).2.1 && !(decide (11=5) && decide (a=b)))) P):=by
 go_enter Tryz.func98,Tryz.ntmps98
 go_wp2_with fail;refine (rfInX b 0 31 _ rfl _).mono ?_;rintro e w' ⟨rfl,rfl⟩;go_wp2_with fail;go_ret;exact ⟨retB (by rw [Bool.eq_iff_iff];simp [win,shp]),own_left⟩
theorem rfSecond12 (a b v:Nat) (cy co:Int) (w0 w:World) (P:HP) [hs:Sat w0 w P]:Calls Tryz.prog 98 #[evA 12 a b v cy co] w (RetV w0 (.bool (win b (shp 12).2.1 && !(decide (12=5) && decide (a=b)))) P):=by
 go_enter Tryz.func98,Tryz.ntmps98
 go_wp2_with fail;refine (rfInX b 0 31 _ rfl _).mono ?_;rintro e w' ⟨rfl,rfl⟩;go_wp2_with fail;go_ret;exact ⟨retB (by rw [Bool.eq_iff_iff];simp [win,shp]),own_left⟩
theorem rfSecond13 (a b v:Nat) (cy co:Int) (w0 w:World) (P:HP) [hs:Sat w0 w P]:Calls Tryz.prog 98 #[evA 13 a b v cy co] w (RetV w0 (.bool (win b (shp 13).2.1 && !(decide (13=5) && decide (a=b)))) P):=by
 go_enter Tryz.func98,Tryz.ntmps98
 go_wp2_with fail;refine (rfInX b 0 31 _ rfl _).mono ?_;rintro e w' ⟨rfl,rfl⟩;go_wp2_with fail;go_ret;exact ⟨retB (by rw [Bool.eq_iff_iff];simp [win,shp]),own_left⟩
theorem rfSecond14 (a b v:Nat) (cy co:Int) (w0 w:World) (P:HP) [hs:Sat w0 w P]:Calls Tryz.prog 98 #[evA 14 a b v cy co] w (RetV w0 (.bool (win b (shp 14).2.1 && !(decide (14=5) && decide (a=b)))) P):=by
 go_enter Tryz.func98,Tryz.ntmps98
 go_wp2_with fail;refine (rfInX b 0 31 _ rfl _).mono ?_;rintro e w' ⟨rfl,rfl⟩;go_wp2_with fail;go_ret;exact ⟨retB (by rw [Bool.eq_iff_iff];simp [win,shp]),own_left⟩
theorem rfSecond15 (a b v:Nat) (cy co:Int) (w0 w:World) (P:HP) [hs:Sat w0 w P]:Calls Tryz.prog 98 #[evA 15 a b v cy co] w (RetV w0 (.bool (win b (shp 15).2.1 && !(decide (15=5) && decide (a=b)))) P):=by
 go_enter Tryz.func98,Tryz.ntmps98
 go_wp2_with fail;refine (rfInX b 0 31 _ rfl _).mono ?_;rintro e w' ⟨rfl,rfl⟩;go_wp2_with fail;go_ret;exact ⟨retB (by rw [Bool.eq_iff_iff];simp [win,shp]),own_left⟩
theorem rfSecond16 (a b v:Nat) (cy co:Int) (w0 w:World) (P:HP) [hs:Sat w0 w P]:Calls Tryz.prog 98 #[evA 16 a b v cy co] w (RetV w0 (.bool (win b (shp 16).2.1 && !(decide (16=5) && decide (a=b)))) P):=by
 go_enter Tryz.func98,Tryz.ntmps98
 go_wp2_with fail;refine (rfInX b 0 31 _ rfl _).mono ?_;rintro e w' ⟨rfl,rfl⟩;go_wp2_with fail;go_ret;exact ⟨retB (by rw [Bool.eq_iff_iff];simp [win,shp]),own_left⟩
theorem rfSecond17 (a b v:Nat) (cy co:Int) (w0 w:World) (P:HP) [hs:Sat w0 w P]:Calls Tryz.prog 98 #[evA 17 a b v cy co] w (RetV w0 (.bool (win b (shp 17).2.1 && !(decide (17=5) && decide (a=b)))) P):=by
 go_enter Tryz.func98,Tryz.ntmps98
 go_wp2_with fail;refine (rfInX b 0 31 _ rfl _).mono ?_;rintro e w' ⟨rfl,rfl⟩;go_wp2_with fail;go_ret;exact ⟨retB (by rw [Bool.eq_iff_iff];simp [win,shp]),own_left⟩
theorem rfSecond18 (a b v:Nat) (cy co:Int) (w0 w:World) (P:HP) [hs:Sat w0 w P]:Calls Tryz.prog 98 #[evA 18 a b v cy co] w (RetV w0 (.bool (win b (shp 18).2.1 && !(decide (18=5) && decide (a=b)))) P):=by
 go_enter Tryz.func98,Tryz.ntmps98
 go_wp2_with fail;go_ret;exact ⟨retB (by rw [Bool.eq_iff_iff];simp [win,shp]),own_left⟩
theorem rfSecond19 (a b v:Nat) (cy co:Int) (w0 w:World) (P:HP) [hs:Sat w0 w P]:Calls Tryz.prog 98 #[evA 19 a b v cy co] w (RetV w0 (.bool (win b (shp 19).2.1 && !(decide (19=5) && decide (a=b)))) P):=by
 go_enter Tryz.func98,Tryz.ntmps98
 go_wp2_with fail;refine (rfInX b 0 31 _ rfl _).mono ?_;rintro e w' ⟨rfl,rfl⟩;go_wp2_with fail;go_ret;exact ⟨retB (by rw [Bool.eq_iff_iff];simp [win,shp]),own_left⟩
theorem rfSecond20 (a b v:Nat) (cy co:Int) (w0 w:World) (P:HP) [hs:Sat w0 w P]:Calls Tryz.prog 98 #[evA 20 a b v cy co] w (RetV w0 (.bool (win b (shp 20).2.1 && !(decide (20=5) && decide (a=b)))) P):=by
 go_enter Tryz.func98,Tryz.ntmps98
 go_wp2_with fail;refine (rfInX b 0 79 _ rfl _).mono ?_;rintro e w' ⟨rfl,rfl⟩;go_wp2_with fail;go_ret;exact ⟨retB (by rw [Bool.eq_iff_iff];simp [win,shp]),own_left⟩
theorem rfSecond21 (a b v:Nat) (cy co:Int) (w0 w:World) (P:HP) [hs:Sat w0 w P]:Calls Tryz.prog 98 #[evA 21 a b v cy co] w (RetV w0 (.bool (win b (shp 21).2.1 && !(decide (21=5) && decide (a=b)))) P):=by
 go_enter Tryz.func98,Tryz.ntmps98
 go_wp2_with fail;refine (rfInX b 0 16 _ rfl _).mono ?_;rintro e w' ⟨rfl,rfl⟩;go_wp2_with fail;go_ret;exact ⟨retB (by rw [Bool.eq_iff_iff];simp [win,shp]),own_left⟩
theorem rfSecond22 (a b v:Nat) (cy co:Int) (w0 w:World) (P:HP) [hs:Sat w0 w P]:Calls Tryz.prog 98 #[evA 22 a b v cy co] w (RetV w0 (.bool (win b (shp 22).2.1 && !(decide (22=5) && decide (a=b)))) P):=by
 go_enter Tryz.func98,Tryz.ntmps98
 go_wp2_with fail;go_ret;exact ⟨retB (by rw [Bool.eq_iff_iff];simp [win,shp]),own_left⟩
theorem rfSecond23 (a b v:Nat) (cy co:Int) (w0 w:World) (P:HP) [hs:Sat w0 w P]:Calls Tryz.prog 98 #[evA 23 a b v cy co] w (RetV w0 (.bool (win b (shp 23).2.1 && !(decide (23=5) && decide (a=b)))) P):=by
 go_enter Tryz.func98,Tryz.ntmps98
 go_wp2_with fail;refine (rfInX b 0 16 _ rfl _).mono ?_;rintro e w' ⟨rfl,rfl⟩;go_wp2_with fail;go_ret;exact ⟨retB (by rw [Bool.eq_iff_iff];simp [win,shp]),own_left⟩
theorem rfSecond24 (a b v:Nat) (cy co:Int) (w0 w:World) (P:HP) [hs:Sat w0 w P]:Calls Tryz.prog 98 #[evA 24 a b v cy co] w (RetV w0 (.bool (win b (shp 24).2.1 && !(decide (24=5) && decide (a=b)))) P):=by
 go_enter Tryz.func98,Tryz.ntmps98
 go_wp2_with fail;go_ret;exact ⟨retB (by rw [Bool.eq_iff_iff];simp [win,shp]),own_left⟩
theorem rfSecond (k a b v:Nat) (hk:1≤k∧k≤24) (cy co:Int) (w0 w:World) (P:HP) [hs:Sat w0 w P]:Calls Tryz.prog 98 #[evA k a b v cy co] w (RetV w0 (.bool (win b (shp k).2.1 && !(decide (k=5) && decide (a=b)))) P):=by
 have h:k=1∨k=2∨k=3∨k=4∨k=5∨k=6∨k=7∨k=8∨k=9∨k=10∨k=11∨k=12∨k=13∨k=14∨k=15∨k=16∨k=17∨k=18∨k=19∨k=20∨k=21∨k=22∨k=23∨k=24:=by omega
 rcases h with rfl | rfl | rfl | rfl | rfl | rfl | rfl | rfl | rfl | rfl | rfl | rfl | rfl | rfl | rfl | rfl | rfl | rfl | rfl | rfl | rfl | rfl | rfl | rfl
 ·exact rfSecond1 a b v cy co w0 w P
 ·exact rfSecond2 a b v cy co w0 w P
 ·exact rfSecond3 a b v cy co w0 w P
 ·exact rfSecond4 a b v cy co w0 w P
 ·exact rfSecond5 a b v cy co w0 w P
 ·exact rfSecond6 a b v cy co w0 w P
 ·exact rfSecond7 a b v cy co w0 w P
 ·exact rfSecond8 a b v cy co w0 w P
 ·exact rfSecond9 a b v cy co w0 w P
 ·exact rfSecond10 a b v cy co w0 w P
 ·exact rfSecond11 a b v cy co w0 w P
 ·exact rfSecond12 a b v cy co w0 w P
 ·exact rfSecond13 a b v cy co w0 w P
 ·exact rfSecond14 a b v cy co w0 w P
 ·exact rfSecond15 a b v cy co w0 w P
 ·exact rfSecond16 a b v cy co w0 w P
 ·exact rfSecond17 a b v cy co w0 w P
 ·exact rfSecond18 a b v cy co w0 w P
 ·exact rfSecond19 a b v cy co w0 w P
 ·exact rfSecond20 a b v cy co w0 w P
 ·exact rfSecond21 a b v cy co w0 w P
 ·exact rfSecond22 a b v cy co w0 w P
 ·exact rfSecond23 a b v cy co w0 w P
 ·exact rfSecond24 a b v cy co w0 w P
theorem rfCheck (k:Int) (cy co:Int) (a b v:Nat) (w0 w:World) (P:HP) [hs:Sat w0 w P] :
    Calls Tryz.prog 62 #[.agg #[.int .i64 k, .int .u64 cy, .int .u64 co, .int .u32 a, .int .u32 b, .int .u32 v]] w fun e w' => ∃ n:Int, e=.returned (.int .i64 n)∧(n=0↔okE ⟨k, cy, co, a, b, v⟩=true)∧Sat w0 w' P := by
  by_cases hk:1≤k∧k≤24
  · obtain ⟨n, rfl⟩ := Int.eq_ofNat_of_zero_le (show 0≤k by omega)
    have hn:1≤n∧n≤24 := by omega
    have hd:decide (1≤(n:Int)∧(n:Int)≤24)=true := by simp; omega
    have g1:decide ((n:Int)<1)=false := by simp; omega
    have g2:decide ((24:Int)<(n:Int))=false := by simp; omega
    have Hok:Hid (okE ⟨n, cy, co, a, b, v⟩=(win a (shp n).1 && (win b (shp n).2.1 && !(decide (n=5) && decide (a=b))) && win v (shp n).2.2)) := by
      unfold Hid okE;rw [hd];show okN n a b v=_;unfold okN;rw [Bool.eq_iff_iff]; simp only [Bool.and_eq_true]; constructor
      · rintro ⟨⟨⟨h1, h2⟩, h3⟩, h4⟩; exact ⟨⟨h1, h2, h4⟩, h3⟩
      · rintro ⟨⟨h1, h2, h4⟩, h3⟩; exact ⟨⟨⟨h1, h2⟩, h3⟩, h4⟩
    generalize h1:win a (shp n).1=x1 at *;generalize h2:(win b (shp n).2.1 && !(decide (n=5) && decide (a=b)))=x2 at *;generalize h3:win v (shp n).2.2=x3 at *;have H1 := hid h1;have H2 := hid h2;have H3 := hid h3;clear h1 h2 h3 hd
    cases x1
    · go_enter Tryz.func62, Tryz.ntmps62
      go_wp2_with fail;refine (rfFirst n a b v hn cy co w0 _ _).mono ?_;rintro e w1 ⟨rfl, hs1⟩;rw [H1.out];go_wp2_with fail;go_ret;exact ⟨_, rfl, by rw [Hok.out]; simp, own_left⟩
    · cases x2
      · go_enter Tryz.func62, Tryz.ntmps62
        go_wp2_with fail;refine (rfFirst n a b v hn cy co w0 _ _).mono ?_;rintro e w1 ⟨rfl, hs1⟩;rw [H1.out];go_wp2_with fail;refine (rfSecond n a b v hn cy co w0 _ _).mono ?_;rintro e w2 ⟨rfl, hs2⟩;rw [H2.out];go_wp2_with fail;go_ret;exact ⟨_, rfl, by rw [Hok.out]; simp, own_left⟩
      · cases x3
        all_goals
          go_enter Tryz.func62, Tryz.ntmps62
          go_wp2_with fail;refine (rfFirst n a b v hn cy co w0 _ _).mono ?_;rintro e w1 ⟨rfl, hs1⟩;rw [H1.out];go_wp2_with fail;refine (rfSecond n a b v hn cy co w0 _ _).mono ?_;rintro e w2 ⟨rfl, hs2⟩;rw [H2.out];go_wp2_with fail;refine (rfThird n a b v hn cy co w0 _ _).mono ?_;rintro e w3 ⟨rfl, hs3⟩;rw [H3.out];go_wp2_with fail;go_ret;exact ⟨_, rfl, by rw [Hok.out]; simp, own_left⟩
  · have hd:decide (1≤k∧k≤24)=false := by simp; omega
    by_cases h:k<1
    all_goals
      first | (have g1:decide (k<1)=true := by simp [h])
            | (have g1:decide (k<1)=false := by simp [h])
      try have g2:decide ((24:Int)<k)=true := by simp; omega
      go_enter Tryz.func62, Tryz.ntmps62
      go_wp2_with fail;go_ret;refine ⟨_, rfl, ?_, own_left⟩;simp [okE]; omega
theorem bneD2 (x y:Int):(x-1 != y)=decide (x≠y+1):=by rw [Bool.eq_iff_iff];simp;omega
theorem rfActs80 (b:Nat) (w:World) :
  Calls Tryz.prog 100 #[.pointer (some ⟨b,0,none⟩),.int .i64 80] w fun e w'=>e=.returned (.bool false)∧w=w':=by
 go_enter Tryz.func100,Tryz.ntmps100
 go_wp2;go_ret;exact ⟨rfl,rfl⟩
theorem rfPosts (b:Nat) (A:Au) (x:Nat) (w0 w:World) (F:HP) (hs:Sat w0 w (rfP b A*F)) (hA:AOk A) (hx:x≤80) :
  Calls Tryz.prog 101 #[.pointer (some ⟨b,0,none⟩),.int .i64 x] w fun e w'=>e=.returned (.bool (acts A x))∧w=w':=by
 have hs0:=hs
 by_cases h:x<80
 ·have d1:((x:Int)==80)=false:=by simp;omega
  generalize hy:acts A x=y;have Hy:=hid hy;clear hy
  cases y
  all_goals
   go_enter Tryz.func101,Tryz.ntmps101
   go_wp2_with fail;refine (rfActsX b A x _ Hy.out w0 _ F hs0 hA h).mono ?_;rintro e w' ⟨rfl,rfl⟩;go_wp2_with fail;go_ret;exact ⟨rfl,rfl⟩
 ·obtain rfl:x=80:=by omega
  obtain ⟨g,off,cap,c1,c2,hs⟩:=rfP_out hA hs
  go_enter Tryz.func101,Tryz.ntmps101
  go_wp2_with fail;refine (rfActs80 b _).mono ?_;rintro e w' ⟨rfl,rfl⟩;go_wp2_with fail;go_ret;exact ⟨retB (by unfold acts;rw [if_neg (by decide),if_neg (by decide),Bool.eq_iff_iff];simp),rfl⟩
theorem rfRule1 (pb:Nat) (A:Au) (a b v:Nat) (had:Bool) (cy co:Int) (w0 w:World) (F:HP) (hs:Sat w0 w (rfP pb A*F)) (hA:AOk A) (hok:okN 1 a b v=true) (hv:v<4294967296) :
  Calls Tryz.prog 63 #[.pointer (some ⟨pb,0,none⟩),evA 1 a b v cy co,.bool had] w (RetV w0 (.bool (rule A 1 a b v had)) (rfP pb A*F)):=by
 have ha:a<16:=by simp [okN,shp,win] at hok;omega
 have i1:(a:Int)<16:=by omega
 have i2:decide (a<16)=true:=by simp;omega
 haveI:Lt a A.pn.length:=⟨by rw [hA.lp];omega⟩;have hb:b<2:=by simp [okN,shp,win] at hok;omega
 obtain ⟨g,off,cap,c1,c2,hs⟩:=rfP_out hA hs
 go_enter Tryz.func63,Tryz.ntmps63
 go_wp2_with fail;go_quiet (fail);go_wp2_with fail;go_ret;exact ⟨retB (by rw [show rule A 1 a b v had=(A.pn.getD a false==decide (b=1)) from rfl,show decide (b=1)=((b:Int)==1) by rw [Bool.eq_iff_iff];simp;omega,Bool.beq_comm];simp),rfP_of (v:=.slice (some ⟨g,off,none⟩) 64 cap) own_left⟩
theorem rfRule2 (pb:Nat) (A:Au) (a b v:Nat) (had:Bool) (cy co:Int) (w0 w:World) (F:HP) (hs:Sat w0 w (rfP pb A*F)) (hA:AOk A) (hok:okN 2 a b v=true) (hv:v<4294967296) :
  Calls Tryz.prog 63 #[.pointer (some ⟨pb,0,none⟩),evA 2 a b v cy co,.bool had] w (RetV w0 (.bool (rule A 2 a b v had)) (rfP pb A*F)):=by
 have hb:b<80:=by simp [okN,shp,win] at hok;omega
 have ha:a<16:=by simp [okN,shp,win] at hok;omega
 obtain ⟨g,off,cap,c1,c2,hs⟩:=rfP_out hA hs
 go_enter Tryz.func63,Tryz.ntmps63
 go_wp2_with fail;go_quiet (fail);go_wp2_with fail;refine (rfActs pb A b w0 _ any (rfP_of (v:=.slice (some ⟨g,off,none⟩) 64 cap) own_left) hA (by omega)).mono ?_;rintro e w' ⟨rfl,rfl⟩;go_wp2_with fail;go_ret;exact ⟨retB (rfl),rfP_of (v:=.slice (some ⟨g,off,none⟩) 64 cap) own_left⟩
theorem rfRule20 (pb:Nat) (A:Au) (a b v:Nat) (had:Bool) (cy co:Int) (w0 w:World) (F:HP) (hs:Sat w0 w (rfP pb A*F)) (hA:AOk A) (hok:okN 20 a b v=true) (hv:v<4294967296) :
  Calls Tryz.prog 63 #[.pointer (some ⟨pb,0,none⟩),evA 20 a b v cy co,.bool had] w (RetV w0 (.bool (rule A 20 a b v had)) (rfP pb A*F)):=by
 have hb:b<80:=by simp [okN,shp,win] at hok;omega
 have ha:a<16:=by simp [okN,shp,win] at hok;omega
 obtain ⟨g,off,cap,c1,c2,hs⟩:=rfP_out hA hs
 go_enter Tryz.func63,Tryz.ntmps63
 go_wp2_with fail;go_quiet (fail);go_wp2_with fail;refine (rfActs pb A b w0 _ any (rfP_of (v:=.slice (some ⟨g,off,none⟩) 64 cap) own_left) hA (by omega)).mono ?_;rintro e w' ⟨rfl,rfl⟩;go_wp2_with fail;go_ret;exact ⟨retB (rfl),rfP_of (v:=.slice (some ⟨g,off,none⟩) 64 cap) own_left⟩
theorem rfRule3 (pb:Nat) (A:Au) (a b v:Nat) (had:Bool) (cy co:Int) (w0 w:World) (F:HP) (hs:Sat w0 w (rfP pb A*F)) (hA:AOk A) (hok:okN 3 a b v=true) (hv:v<4294967296) :
    Calls Tryz.prog 63 #[.pointer (some ⟨pb, 0, none⟩), evA 3 a b v cy co, .bool had] w (RetV w0 (.bool (rule A 3 a b v had)) (rfP pb A*F)) := by
  have ha:a<16 := by simp [okN, shp, win] at hok; omega
  have i1:(a:Int)<16 := by omega
  have i2:decide (a<16)=true := by simp; omega
  haveI:Lt a A.pn.length := ⟨by rw [hA.lp]; omega⟩;have hb:b<256 := by simp [okN, shp, win] at hok; omega
  have hi := hA.isr;have Hr:Hid (rule A 3 a b v had=(decide (A.isr=0) && A.pn.getD a false)) := rfl;obtain ⟨g, off, cap, c1, c2, hs⟩ := rfP_out hA hs
  by_cases h1:A.isr=0
  all_goals
    first | have d2:decide (A.isr-1<0)=true := by simp; omega
          | have d2:decide (A.isr-1<0)=false := by simp; omega
    first | rw [decide_eq_true h1] at Hr | rw [decide_eq_false h1] at Hr
    clear h1
    go_enter Tryz.func63, Tryz.ntmps63
    go_wp2_with fail;go_quiet (fail);go_wp2_with fail;go_ret;exact ⟨retB (by rw [Hr.out]; simp), rfP_of (v := .slice (some ⟨g, off, none⟩) 64 cap) own_left⟩
theorem rfRule4 (pb:Nat) (A:Au) (a b v:Nat) (had:Bool) (cy co:Int) (w0 w:World) (F:HP) (hs:Sat w0 w (rfP pb A*F)) (hA:AOk A) (hok:okN 4 a b v=true) (hv:v<4294967296) :
  Calls Tryz.prog 63 #[.pointer (some ⟨pb,0,none⟩),evA 4 a b v cy co,.bool had] w (RetV w0 (.bool (rule A 4 a b v had)) (rfP pb A*F)):=by
 have ha:a<16:=by simp [okN,shp,win] at hok;omega
 have i1:(a:Int)<16:=by omega
 have i2:decide (a<16)=true:=by simp;omega
 haveI:Lt a A.pn.length:=⟨by rw [hA.lp];omega⟩;have hb:b<256:=by simp [okN,shp,win] at hok;omega
 have hi:=hA.isr;have Hr:Hid (rule A 4 a b v had=decide (A.isr=(a:Int)+1)):=rfl;obtain ⟨g,off,cap,c1,c2,hs⟩:=rfP_out hA hs
 go_enter Tryz.func63,Tryz.ntmps63
 go_wp2_with fail;go_quiet (fail);go_wp2_with fail;go_ret;exact ⟨retB (by rw [Hr.out,Bool.eq_iff_iff];simp;omega),rfP_of (v:=.slice (some ⟨g,off,none⟩) 64 cap) own_left⟩
theorem rfRule6 (pb:Nat) (A:Au) (a b v:Nat) (had:Bool) (cy co:Int) (w0 w:World) (F:HP) (hs:Sat w0 w (rfP pb A*F)) (hA:AOk A) (hok:okN 6 a b v=true) (hv:v<4294967296) :
    Calls Tryz.prog 63 #[.pointer (some ⟨pb, 0, none⟩), evA 6 a b v cy co, .bool had] w (RetV w0 (.bool (rule A 6 a b v had)) (rfP pb A*F)) := by
  have ha:a<64 := by simp [okN, shp, win] at hok; omega
  have i1:(a:Int)<64 := by omega
  have i2:decide (a<64)=true := by simp; omega
  haveI:Lt a A.ts.length := ⟨by rw [hA.lt]; omega⟩;have hb:b<256 := by simp [okN, shp, win] at hok; omega
  have hm := tkg_mem (l := A.ts) (k := a) this.lt;have hj := hA.job _ hm;have Hr := hid (rule6 A a b v had);have h2:(tkg A.ts a).st=(tkAt A a).st := rfl;obtain ⟨g, off, cap, c1, c2, hs⟩ := rfP_out hA hs;clear hm
  by_cases h1:(tkAt A a).st=0
  all_goals
    first | have e2:((tkg A.ts a).st==0)=true := by rw [h2]; simp [h1]
          | have e2:((tkg A.ts a).st==0)=false := by rw [h2]; simp [h1]
    first | rw [decide_eq_true h1, Bool.true_and] at Hr | rw [decide_eq_false h1, Bool.false_and] at Hr
    clear h1 h2
    go_enter Tryz.func63, Tryz.ntmps63
    go_wp2_with fail;go_quiet (fail);go_wp2_with fail;refine wp_gen (w0 := w0) ?_;intro wq hsq;go_quiet (fail);go_wp2_with fail;go_ret;exact ⟨retB (by first | (rw [Hr.out]; done) | (rw [Hr.out]; exact nbq _ _)), rfP_of (v := .slice (some ⟨g, off, none⟩) 64 cap) own_left⟩
theorem rfRule7 (pb:Nat) (A:Au) (a b v:Nat) (had:Bool) (cy co:Int) (w0 w:World) (F:HP) (hs:Sat w0 w (rfP pb A*F)) (hA:AOk A) (hok:okN 7 a b v=true) (hv:v<4294967296) :
    Calls Tryz.prog 63 #[.pointer (some ⟨pb, 0, none⟩), evA 7 a b v cy co, .bool had] w (RetV w0 (.bool (rule A 7 a b v had)) (rfP pb A*F)) := by
  have ha:a<64 := by simp [okN, shp, win] at hok; omega
  have i1:(a:Int)<64 := by omega
  have i2:decide (a<64)=true := by simp; omega
  haveI:Lt a A.ts.length := ⟨by rw [hA.lt]; omega⟩;have hb:b<256 := by simp [okN, shp, win] at hok; omega
  have hm := tkg_mem (l := A.ts) (k := a) this.lt;have hl := hA.late _ hm;have hst := hA.st _ hm;have Hr := hid (rule7 A a b v had);have h2:(tkg A.ts a).st=(tkAt A a).st := rfl;obtain ⟨g, off, cap, c1, c2, hs⟩ := rfP_out hA hs;clear hm;have fin:∀ (y1 y2:Bool), ((tkg A.ts a).st==1)=y1→((tkg A.ts a).st==2)=y2→Hid (rule A 7 a b v had=((y1 || y2) && decide ((v:Int)=min ((tkAt A a).late+1) 255))) := by
    intro y1 y2 e1 e2;rw [Hid, Hr.out, ← e1, ← e2]
    congr 1
    rw [Bool.eq_iff_iff]; simp only [decide_eq_true_eq, Bool.or_eq_true, beq_iff_eq]; rw [← h2]; omega
  by_cases hm:(tkg A.ts a).late+1≤255
  all_goals
    first
      | (have m1:¬ (255<(tkg A.ts a).late+1) := by omega
         have Hm:Hid (min ((tkAt A a).late+1) 255=(tkg A.ts a).late+1) := by unfold Hid tkAt; omega)
      | (have m1:255<(tkg A.ts a).late+1 := by omega
         have Hm:Hid (min ((tkAt A a).late+1) 255=255) := by unfold Hid tkAt; omega)
    clear hm;generalize e1:((tkg A.ts a).st==1)=y1 at *;generalize e2:((tkg A.ts a).st==2)=y2 at *;have Hf := hid (fin y1 y2 rfl rfl).out;clear fin hst h2
    cases y1<;>cases y2
    all_goals
      go_enter Tryz.func63, Tryz.ntmps63
      go_wp2_with fail;go_quiet (fail);go_wp2_with fail;refine wp_gen (w0 := w0) ?_;intro wq hsq;go_quiet (fail);go_wp2_with fail;go_ret;exact ⟨retB (by first | (rw [Hf.out]; done) | (rw [Hf.out, Hm.out]; first | rfl | exact beqD _ _)), rfP_of (v := .slice (some ⟨g, off, none⟩) 64 cap) own_left⟩
theorem rfRule8 (pb:Nat) (A:Au) (a b v:Nat) (had:Bool) (cy co:Int) (w0 w:World) (F:HP) (hs:Sat w0 w (rfP pb A*F)) (hA:AOk A) (hok:okN 8 a b v=true) (hv:v<4294967296) :
  Calls Tryz.prog 63 #[.pointer (some ⟨pb,0,none⟩),evA 8 a b v cy co,.bool had] w (RetV w0 (.bool (rule A 8 a b v had)) (rfP pb A*F)):=by
 have ha:a<64:=by simp [okN,shp,win] at hok;omega
 have i1:(a:Int)<64:=by omega
 have i2:decide (a<64)=true:=by simp;omega
 haveI:Lt a A.ts.length:=⟨by rw [hA.lt];omega⟩;have hb:b<256:=by simp [okN,shp,win] at hok;omega
 have Hr:=hid (rule8 A a b v had);generalize hx:acts A a=x at Hr;have Hx:=hid hx;clear hx;obtain ⟨g,off,cap,c1,c2,hs⟩:=rfP_out hA hs
 cases x
 all_goals
  go_enter Tryz.func63,Tryz.ntmps63
  go_wp2_with fail;go_quiet (fail);go_wp2_with fail;refine wp_gen (w0:=w0) ?_;intro wq hsq;go_quiet ((go_at_call 100;exact quiet_eq (rfActsX pb A a _ Hx.out w0 _ any (rfP_of (v:=.slice (some ⟨g,off,none⟩) 64 cap) own_left) hA (by omega))));go_wp2_with fail;go_ret;exact ⟨retB (by rw [Hr.out];first | rfl | exact natBeq _ _),rfP_of (v:=.slice (some ⟨g,off,none⟩) 64 cap) own_left⟩
theorem rfRule15 (pb:Nat) (A:Au) (a b v:Nat) (had:Bool) (cy co:Int) (w0 w:World) (F:HP) (hs:Sat w0 w (rfP pb A*F)) (hA:AOk A) (hok:okN 15 a b v=true) (hv:v<4294967296) :
  Calls Tryz.prog 63 #[.pointer (some ⟨pb,0,none⟩),evA 15 a b v cy co,.bool had] w (RetV w0 (.bool (rule A 15 a b v had)) (rfP pb A*F)):=by
 have ha:a<80:=by simp [okN,shp,win] at hok;omega
 have hb:b<256:=by simp [okN,shp,win] at hok;omega
 obtain ⟨g,off,cap,c1,c2,hs⟩:=rfP_out hA hs
 go_enter Tryz.func63,Tryz.ntmps63
 go_wp2_with fail;go_quiet (fail);go_wp2_with fail;refine (rfActs pb A a w0 _ any (rfP_of (v:=.slice (some ⟨g,off,none⟩) 64 cap) own_left) hA (by omega)).mono ?_;rintro e w' ⟨rfl,rfl⟩;go_wp2_with fail;go_ret;exact ⟨retB (rfl),rfP_of (v:=.slice (some ⟨g,off,none⟩) 64 cap) own_left⟩
theorem rfRule19 (pb:Nat) (A:Au) (a b v:Nat) (had:Bool) (cy co:Int) (w0 w:World) (F:HP) (hs:Sat w0 w (rfP pb A*F)) (hA:AOk A) (hok:okN 19 a b v=true) (hv:v<4294967296) :
  Calls Tryz.prog 63 #[.pointer (some ⟨pb,0,none⟩),evA 19 a b v cy co,.bool had] w (RetV w0 (.bool (rule A 19 a b v had)) (rfP pb A*F)):=by
 have ha:a<80:=by simp [okN,shp,win] at hok;omega
 have hb:b<256:=by simp [okN,shp,win] at hok;omega
 obtain ⟨g,off,cap,c1,c2,hs⟩:=rfP_out hA hs
 go_enter Tryz.func63,Tryz.ntmps63
 go_wp2_with fail;go_quiet (fail);go_wp2_with fail;refine (rfActs pb A a w0 _ any (rfP_of (v:=.slice (some ⟨g,off,none⟩) 64 cap) own_left) hA (by omega)).mono ?_;rintro e w' ⟨rfl,rfl⟩;go_wp2_with fail;go_ret;exact ⟨retB (rfl),rfP_of (v:=.slice (some ⟨g,off,none⟩) 64 cap) own_left⟩
theorem rfRule21 (pb:Nat) (A:Au) (a b v:Nat) (had:Bool) (cy co:Int) (w0 w:World) (F:HP) (hs:Sat w0 w (rfP pb A*F)) (hA:AOk A) (hok:okN 21 a b v=true) (hv:v<4294967296) :
  Calls Tryz.prog 63 #[.pointer (some ⟨pb,0,none⟩),evA 21 a b v cy co,.bool had] w (RetV w0 (.bool (rule A 21 a b v had)) (rfP pb A*F)):=by
 have ha:a<80:=by simp [okN,shp,win] at hok;omega
 have hb:b<256:=by simp [okN,shp,win] at hok;omega
 obtain ⟨g,off,cap,c1,c2,hs⟩:=rfP_out hA hs
 go_enter Tryz.func63,Tryz.ntmps63
 go_wp2_with fail;go_quiet (fail);go_wp2_with fail;refine (rfActs pb A a w0 _ any (rfP_of (v:=.slice (some ⟨g,off,none⟩) 64 cap) own_left) hA (by omega)).mono ?_;rintro e w' ⟨rfl,rfl⟩;go_wp2_with fail;go_ret;exact ⟨retB (rfl),rfP_of (v:=.slice (some ⟨g,off,none⟩) 64 cap) own_left⟩
theorem rfRule22 (pb:Nat) (A:Au) (a b v:Nat) (had:Bool) (cy co:Int) (w0 w:World) (F:HP) (hs:Sat w0 w (rfP pb A*F)) (hA:AOk A) (hok:okN 22 a b v=true) (hv:v<4294967296) :
  Calls Tryz.prog 63 #[.pointer (some ⟨pb,0,none⟩),evA 22 a b v cy co,.bool had] w (RetV w0 (.bool (rule A 22 a b v had)) (rfP pb A*F)):=by
 have ha:a<80:=by simp [okN,shp,win] at hok;omega
 have hb:b<256:=by simp [okN,shp,win] at hok;omega
 obtain ⟨g,off,cap,c1,c2,hs⟩:=rfP_out hA hs
 go_enter Tryz.func63,Tryz.ntmps63
 go_wp2_with fail;go_quiet (fail);go_wp2_with fail;refine (rfActs pb A a w0 _ any (rfP_of (v:=.slice (some ⟨g,off,none⟩) 64 cap) own_left) hA (by omega)).mono ?_;rintro e w' ⟨rfl,rfl⟩;go_wp2_with fail;go_ret;exact ⟨retB (rfl),rfP_of (v:=.slice (some ⟨g,off,none⟩) 64 cap) own_left⟩
theorem rfRule14 (pb:Nat) (A:Au) (a b v:Nat) (had:Bool) (cy co:Int) (w0 w:World) (F:HP) (hs:Sat w0 w (rfP pb A*F)) (hA:AOk A) (hok:okN 14 a b v=true) (hv:v<4294967296) :
  Calls Tryz.prog 63 #[.pointer (some ⟨pb,0,none⟩),evA 14 a b v cy co,.bool had] w (RetV w0 (.bool (rule A 14 a b v had)) (rfP pb A*F)):=by
 have ha:a≤80:=by simp [okN,shp,win] at hok;omega
 have hb:b<256:=by simp [okN,shp,win] at hok;omega
 obtain ⟨g,off,cap,c1,c2,hs⟩:=rfP_out hA hs
 go_enter Tryz.func63,Tryz.ntmps63
 go_wp2_with fail;go_quiet (fail);go_wp2_with fail;refine (rfPosts pb A a w0 _ any (rfP_of (v:=.slice (some ⟨g,off,none⟩) 64 cap) own_left) hA (by omega)).mono ?_;rintro e w' ⟨rfl,rfl⟩;go_wp2_with fail;go_ret;exact ⟨retB (rfl),rfP_of (v:=.slice (some ⟨g,off,none⟩) 64 cap) own_left⟩
theorem rfRule23 (pb:Nat) (A:Au) (a b v:Nat) (had:Bool) (cy co:Int) (w0 w:World) (F:HP) (hs:Sat w0 w (rfP pb A*F)) (hA:AOk A) (hok:okN 23 a b v=true) (hv:v<4294967296) :
  Calls Tryz.prog 63 #[.pointer (some ⟨pb,0,none⟩),evA 23 a b v cy co,.bool had] w (RetV w0 (.bool (rule A 23 a b v had)) (rfP pb A*F)):=by
 have ha:a≤80:=by simp [okN,shp,win] at hok;omega
 have hb:b<256:=by simp [okN,shp,win] at hok;omega
 obtain ⟨g,off,cap,c1,c2,hs⟩:=rfP_out hA hs
 go_enter Tryz.func63,Tryz.ntmps63
 go_wp2_with fail;go_quiet (fail);go_wp2_with fail;refine (rfPosts pb A a w0 _ any (rfP_of (v:=.slice (some ⟨g,off,none⟩) 64 cap) own_left) hA (by omega)).mono ?_;rintro e w' ⟨rfl,rfl⟩;go_wp2_with fail;go_ret;exact ⟨retB (rfl),rfP_of (v:=.slice (some ⟨g,off,none⟩) 64 cap) own_left⟩
theorem rfRule18 (pb:Nat) (A:Au) (a b v:Nat) (had:Bool) (cy co:Int) (w0 w:World) (F:HP) (hs:Sat w0 w (rfP pb A*F)) (hA:AOk A) (hok:okN 18 a b v=true) (hv:v<4294967296) :
  Calls Tryz.prog 63 #[.pointer (some ⟨pb,0,none⟩),evA 18 a b v cy co,.bool had] w (RetV w0 (.bool (rule A 18 a b v had)) (rfP pb A*F)):=by
 have ha:a<256:=by simp [okN,shp,win] at hok;omega
 have hb:b<256:=by simp [okN,shp,win] at hok;omega
 obtain ⟨g,off,cap,c1,c2,hs⟩:=rfP_out hA hs
 go_enter Tryz.func63,Tryz.ntmps63
 go_wp2_with fail;go_quiet (fail);go_wp2_with fail;go_ret;exact ⟨retB (rfl),rfP_of (v:=.slice (some ⟨g,off,none⟩) 64 cap) own_left⟩
theorem rfRule24 (pb:Nat) (A:Au) (a b v:Nat) (had:Bool) (cy co:Int) (w0 w:World) (F:HP) (hs:Sat w0 w (rfP pb A*F)) (hA:AOk A) (hok:okN 24 a b v=true) (hv:v<4294967296) :
  Calls Tryz.prog 63 #[.pointer (some ⟨pb,0,none⟩),evA 24 a b v cy co,.bool had] w (RetV w0 (.bool (rule A 24 a b v had)) (rfP pb A*F)):=by
 have ha:a<256:=by simp [okN,shp,win] at hok;omega
 have hb:b<256:=by simp [okN,shp,win] at hok;omega
 obtain ⟨g,off,cap,c1,c2,hs⟩:=rfP_out hA hs
 go_enter Tryz.func63,Tryz.ntmps63
 go_wp2_with fail;go_quiet (fail);go_wp2_with fail;go_ret;exact ⟨retB (rfl),rfP_of (v:=.slice (some ⟨g,off,none⟩) 64 cap) own_left⟩
theorem rfRule11 (pb:Nat) (A:Au) (a b v:Nat) (had:Bool) (cy co:Int) (w0 w:World) (F:HP) (hs:Sat w0 w (rfP pb A*F)) (hA:AOk A) (hok:okN 11 a b v=true) (hv:v<4294967296) :
  Calls Tryz.prog 63 #[.pointer (some ⟨pb,0,none⟩),evA 11 a b v cy co,.bool had] w (RetV w0 (.bool (rule A 11 a b v had)) (rfP pb A*F)):=by
 have ha:a<64:=by simp [okN,shp,win] at hok;omega
 have i1:(a:Int)<64:=by omega
 have i2:decide (a<64)=true:=by simp;omega
 haveI:Lt a A.ts.length:=⟨by rw [hA.lt];omega⟩;have hb:b<32:=by simp [okN,shp,win] at hok;omega
 have Hr:=hid (rule11 A a b v had);obtain ⟨g,off,cap,c1,c2,hs⟩:=rfP_out hA hs
 go_enter Tryz.func63,Tryz.ntmps63
 go_wp2_with fail;go_quiet (fail);go_wp2_with fail;go_ret;exact ⟨retB (by rw [Hr.out];exact bneD2 _ _),rfP_of (v:=.slice (some ⟨g,off,none⟩) 64 cap) own_left⟩
theorem rfRule12 (pb:Nat) (A:Au) (a b v:Nat) (had:Bool) (cy co:Int) (w0 w:World) (F:HP) (hs:Sat w0 w (rfP pb A*F)) (hA:AOk A) (hok:okN 12 a b v=true) (hv:v<4294967296) :
    Calls Tryz.prog 63 #[.pointer (some ⟨pb, 0, none⟩), evA 12 a b v cy co, .bool had] w (RetV w0 (.bool (rule A 12 a b v had)) (rfP pb A*F)) := by
  have ha:a<64 := by simp [okN, shp, win] at hok; omega
  have hb:b<32 := by simp [okN, shp, win] at hok; omega
  have i1:(b:Int)<32 := by omega
  have i2:decide (b<32)=true := by simp; omega
  haveI:Lt b A.ow.length := ⟨by rw [hA.lo]; omega⟩;have hown := hA.own (owg A.ow b) (getD_mem (by rw [hA.lo]; omega) 0);have h2:owg A.ow b=owAt A b := rfl;have Hr := hid (rule12 A a b v had);generalize hx:acts A a=x at Hr;have Hx := hid hx;clear hx;obtain ⟨g, off, cap, c1, c2, hs⟩ := rfP_out hA hs
  by_cases h1:owAt A b=0
  all_goals
    first | have e1:decide (owg A.ow b-1<0)=true := by rw [h2]; simp; omega
          | have e1:decide (owg A.ow b-1<0)=false := by simp; omega
    first | rw [decide_eq_true h1, Bool.true_and] at Hr | rw [decide_eq_false h1, Bool.false_and] at Hr
    clear h1 h2
    cases had
    all_goals
      go_enter Tryz.func63, Tryz.ntmps63
      go_wp2_with fail;go_quiet (fail);go_wp2_with fail
      try
        refine (rfActsX pb A a _ Hx.out w0 _ any (rfP_of (v := .slice (some ⟨g, off, none⟩) 64 cap) own_left) hA (by omega)).mono ?_;rintro e w' ⟨rfl, rfl⟩;go_wp2_with fail
      go_ret;exact ⟨retB (by first | (rw [Hr.out]; done) | (rw [Hr.out]; rfl)), rfP_of (v := .slice (some ⟨g, off, none⟩) 64 cap) own_left⟩
theorem rfRule13 (pb:Nat) (A:Au) (a b v:Nat) (had:Bool) (cy co:Int) (w0 w:World) (F:HP) (hs:Sat w0 w (rfP pb A*F)) (hA:AOk A) (hok:okN 13 a b v=true) (hv:v<4294967296) :
  Calls Tryz.prog 63 #[.pointer (some ⟨pb,0,none⟩),evA 13 a b v cy co,.bool had] w (RetV w0 (.bool (rule A 13 a b v had)) (rfP pb A*F)):=by
 have ha:a<64:=by simp [okN,shp,win] at hok;omega
 have i1:(a:Int)<64:=by omega
 have i2:decide (a<64)=true:=by simp;omega
 haveI:Lt a A.ts.length:=⟨by rw [hA.lt];omega⟩;have hb:b<32:=by simp [okN,shp,win] at hok;omega
 have i3:(b:Int)<32:=by omega
 have i4:decide (b<32)=true:=by simp;omega
 haveI:Lt b A.ow.length:=⟨by rw [hA.lo];omega⟩;have hown:=hA.own (owg A.ow b) (getD_mem (by rw [hA.lo];omega) 0);have h2:owg A.ow b=owAt A b:=rfl;have h3:(tkg A.ts a).st=(tkAt A a).st:=rfl;have Hr:=hid (rule13 A a b v had);generalize hx:acts A a=x at Hr;have Hx:=hid hx;clear hx;obtain ⟨g,off,cap,c1,c2,hs⟩:=rfP_out hA hs
 by_cases h1:owAt A b=(a:Int)+1
 ·have e1:(owg A.ow b-1==(a:Int))=true:=by rw [h2];simp;omega
  rw [decide_eq_true h1,Bool.true_and,Bool.or_comm,← h3] at Hr;clear h1 h2 h3
  cases x
  all_goals
   go_enter Tryz.func63,Tryz.ntmps63
   go_wp2_with fail;go_quiet (fail);go_wp2_with fail;refine (rfActsX pb A a _ Hx.out w0 _ any (rfP_of (v:=.slice (some ⟨g,off,none⟩) 64 cap) own_left) hA (by omega)).mono ?_;rintro e w' ⟨rfl,rfl⟩;go_wp2_with fail;go_ret;exact ⟨retB (by first | (rw [Hr.out];done) | (rw [Hr.out];exact beqD _ _) | (rw [Hr.out];rfl)),rfP_of (v:=.slice (some ⟨g,off,none⟩) 64 cap) own_left⟩
 ·have e1:(owg A.ow b-1==(a:Int))=false:=by rw [h2];simp;omega
  rw [decide_eq_false h1,Bool.false_and] at Hr;clear h1 h2 h3
  go_enter Tryz.func63,Tryz.ntmps63
  go_wp2_with fail;go_quiet (fail);go_wp2_with fail;go_ret;exact ⟨retB (by rw [Hr.out]),rfP_of (v:=.slice (some ⟨g,off,none⟩) 64 cap) own_left⟩
theorem rfRule9 (pb:Nat) (A:Au) (a b v:Nat) (had:Bool) (cy co:Int) (w0 w:World) (F:HP) (hs:Sat w0 w (rfP pb A*F)) (hA:AOk A) (hok:okN 9 a b v=true) (hv:v<4294967296) :
  Calls Tryz.prog 63 #[.pointer (some ⟨pb,0,none⟩),evA 9 a b v cy co,.bool had] w (RetV w0 (.bool (rule A 9 a b v had)) (rfP pb A*F)):=by
 have ha:a<64:=by simp [okN,shp,win] at hok;omega
 have i1:(a:Int)<64:=by omega
 have i2:decide (a<64)=true:=by simp;omega
 haveI:Lt a A.ts.length:=⟨by rw [hA.lt];omega⟩;have hb:b<160:=by simp [okN,shp,win] at hok;omega
 have Hr:=hid (rule9 A a b v had);generalize hx:acts A a=x at Hr;have Hx:=hid hx;clear hx;obtain ⟨g,off,cap,c1,c2,hs⟩:=rfP_out hA hs
 by_cases hmu:isMu b=true
 ·have hm32:32≤b∧b<64:=by simp [isMu] at hmu;omega
  rw [hmu] at Hr;have Hr2:Hid (rule A 9 a b v had=(x && (decide (owg A.ow (b-32)≠0) && decide (owg A.ow (b-32)≠(a:Int)+1)))):=Hr;clear Hr hmu;generalize hmm:b-32=m at *;have hbm:(b:Int)-32=(m:Int):=by omega
  have g1:decide ((b:Int)<32)=false:=by simp;omega
  have g2:decide ((63:Int)<(b:Int))=false:=by simp;omega
  have i3:(m:Int)<32:=by omega
  have i4:decide (m<32)=true:=by simp;omega
  haveI:Lt m A.ow.length:=⟨by rw [hA.lo];omega⟩;have hown:=hA.own (owg A.ow m) (getD_mem (by rw [hA.lo];omega) 0);have e0:decide (1≤owg A.ow m)=decide (owg A.ow m≠0):=by rw [Bool.eq_iff_iff];simp;omega
  have e1:(owg A.ow m-1 != (a:Int))=decide (owg A.ow m≠(a:Int)+1):=bneD2 _ _;clear hmm hm32 hown;generalize decide (owg A.ow m≠0)=y0 at *;generalize decide (owg A.ow m≠(a:Int)+1)=y1 at *
  cases x<;>cases y0<;>cases y1
  all_goals
   go_enter Tryz.func63,Tryz.ntmps63
   go_wp2_with fail;go_quiet (fail);go_wp2_with fail;refine (rfActsX pb A a _ Hx.out w0 _ any (rfP_of (v:=.slice (some ⟨g,off,none⟩) 64 cap) own_left) hA (by omega)).mono ?_;rintro e w' ⟨rfl,rfl⟩;go_wp2_with fail;go_ret;exact ⟨retB (by first | (rw [Hr2.out];done) | (rw [Hr2.out];rfl)),rfP_of (v:=.slice (some ⟨g,off,none⟩) 64 cap) own_left⟩
 ·rw [Bool.not_eq_true] at hmu;have hm32:b<32∨63<b:=by simp [isMu] at hmu;omega
  rw [hmu] at Hr;have Hr2:Hid (rule A 9 a b v had=x):=by unfold Hid;rw [Hr.out];simp
  clear Hr hmu
  by_cases gq:b<32
  ·have g1:decide ((b:Int)<32)=true:=by simp;omega
   clear hm32
   cases x
   all_goals
    go_enter Tryz.func63,Tryz.ntmps63
    go_wp2_with fail;go_quiet (fail);go_wp2_with fail;refine (rfActsX pb A a _ Hx.out w0 _ any (rfP_of (v:=.slice (some ⟨g,off,none⟩) 64 cap) own_left) hA (by omega)).mono ?_;rintro e w' ⟨rfl,rfl⟩;go_wp2_with fail;go_ret;exact ⟨retB (by first | (rw [Hr2.out];done) | (rw [Hr2.out];rfl)),rfP_of (v:=.slice (some ⟨g,off,none⟩) 64 cap) own_left⟩
  ·have g1:decide ((b:Int)<32)=false:=by simp;omega
   have g2:decide ((63:Int)<(b:Int))=true:=by simp;omega
   clear hm32
   cases x
   all_goals
    go_enter Tryz.func63,Tryz.ntmps63
    go_wp2_with fail;go_quiet (fail);go_wp2_with fail;refine (rfActsX pb A a _ Hx.out w0 _ any (rfP_of (v:=.slice (some ⟨g,off,none⟩) 64 cap) own_left) hA (by omega)).mono ?_;rintro e w' ⟨rfl,rfl⟩;go_wp2_with fail;go_ret;exact ⟨retB (by first | (rw [Hr2.out];done) | (rw [Hr2.out];rfl)),rfP_of (v:=.slice (some ⟨g,off,none⟩) 64 cap) own_left⟩
theorem rfRule10 (pb:Nat) (A:Au) (a b v:Nat) (had:Bool) (cy co:Int) (w0 w:World) (F:HP) (hs:Sat w0 w (rfP pb A*F)) (hA:AOk A) (hok:okN 10 a b v=true) (hv:v<4294967296) :
    Calls Tryz.prog 63 #[.pointer (some ⟨pb, 0, none⟩), evA 10 a b v cy co, .bool had] w (RetV w0 (.bool (rule A 10 a b v had)) (rfP pb A*F)) := by
  have ha:a<64 := by simp [okN, shp, win] at hok; omega
  have i1:(a:Int)<64 := by omega
  have i2:decide (a<64)=true := by simp; omega
  haveI:Lt a A.ts.length := ⟨by rw [hA.lt]; omega⟩;have hb:b<2 := by simp [okN, shp, win] at hok; omega
  have hm := tkg_mem (l := A.ts) (k := a) this.lt;have hon := hA.on _ hm;have Hr := hid (rule10 A a b v had);have h2:(tkg A.ts a).st=(tkAt A a).st := rfl;have hon2:(tkAt A a).on=(tkg A.ts a).on := rfl;obtain ⟨g, off, cap, c1, c2, hs⟩ := rfP_out hA hs;clear hm
  by_cases h1:(tkAt A a).st=2
  · have e1:((tkg A.ts a).st != 2)=false := by rw [h2]; simp [h1]
    rw [decide_eq_true h1, Bool.true_and, hon2] at Hr;clear h1 h2 hon2
    by_cases h3:(tkg A.ts a).on=0
    · have e3:(((tkg A.ts a).on:Int)==0)=true := by simp [h3]
      have g1:decide (((tkg A.ts a).on:Int)<32)=true := by simp; omega
      rw [if_pos h3] at Hr;clear h3
      by_cases hb0:b=0
      all_goals
        first | have f1:((b:Int) != 0)=false := by simp [hb0]
              | have f1:((b:Int) != 0)=true := by simp; omega
        first | rw [decide_eq_true hb0] at Hr | rw [decide_eq_false hb0] at Hr
        clear hb0
        go_enter Tryz.func63, Tryz.ntmps63
        go_wp2_with fail;go_quiet (fail);go_wp2_with fail;go_ret;exact ⟨retB (by first | (rw [Hr.out]; done) | (rw [Hr.out]; rfl)), rfP_of (v := .slice (some ⟨g, off, none⟩) 64 cap) own_left⟩
    · have e3:(((tkg A.ts a).on:Int)==0)=false := by simp [h3]
      rw [if_neg h3] at Hr;clear h3
      by_cases hmu:isMu (tkg A.ts a).on=true
      · have hm32:32≤(tkg A.ts a).on∧(tkg A.ts a).on<64 := by simp [isMu] at hmu; omega
        rw [hmu] at Hr;have Hr2:Hid (rule A 10 a b v had=(decide (b=1) && decide (owg A.ow ((tkg A.ts a).on-32)=0))) := Hr;clear Hr hmu;generalize hmm:(tkg A.ts a).on-32=m at *;have hbm:((tkg A.ts a).on:Int)-32=(m:Int) := by omega
        have g1:decide (((tkg A.ts a).on:Int)<32)=false := by simp; omega
        have g2:decide ((63:Int)<((tkg A.ts a).on:Int))=false := by simp; omega
        have i3:(m:Int)<32 := by omega
        have i4:decide (m<32)=true := by simp; omega
        haveI:Lt m A.ow.length := ⟨by rw [hA.lo]; omega⟩;have hown := hA.own (owg A.ow m) (getD_mem (by rw [hA.lo]; omega) 0);have e0:decide (owg A.ow m-1<0)=decide (owg A.ow m=0) := by rw [Bool.eq_iff_iff]; simp; omega
        clear hmm hm32 hown;generalize decide (owg A.ow m=0)=y0 at *
        by_cases hb1:b=1
        all_goals
          first | have f1:((b:Int)==1)=true := by simp [hb1]
                | have f1:((b:Int)==1)=false := by simp; omega
          first | rw [decide_eq_true hb1, Bool.true_and] at Hr2 | rw [decide_eq_false hb1, Bool.false_and] at Hr2
          clear hb1
          cases y0
          all_goals
            go_enter Tryz.func63, Tryz.ntmps63
            go_wp2_with fail;go_quiet (fail);go_wp2_with fail;go_ret;exact ⟨retB (by first | (rw [Hr2.out]; done) | (rw [Hr2.out]; rfl)), rfP_of (v := .slice (some ⟨g, off, none⟩) 64 cap) own_left⟩
      · rw [Bool.not_eq_true] at hmu
        have hm32:(tkg A.ts a).on<32∨63<(tkg A.ts a).on := by simp [isMu] at hmu; omega
        rw [hmu] at Hr;have Hr2:Hid (rule A 10 a b v had=true) := by unfold Hid; rw [Hr.out]; simp
        clear Hr hmu
        by_cases gq:(tkg A.ts a).on<32
        · have g1:decide (((tkg A.ts a).on:Int)<32)=true := by simp; omega
          clear hm32
          go_enter Tryz.func63, Tryz.ntmps63
          go_wp2_with fail;go_quiet (fail);go_wp2_with fail;go_ret;exact ⟨retB (by first | (rw [Hr2.out]; done) | (rw [Hr2.out]; rfl)), rfP_of (v := .slice (some ⟨g, off, none⟩) 64 cap) own_left⟩
        · have g1:decide (((tkg A.ts a).on:Int)<32)=false := by simp; omega
          have g2:decide ((63:Int)<((tkg A.ts a).on:Int))=true := by simp; omega
          clear hm32
          go_enter Tryz.func63, Tryz.ntmps63
          go_wp2_with fail;go_quiet (fail);go_wp2_with fail;go_ret;exact ⟨retB (by first | (rw [Hr2.out]; done) | (rw [Hr2.out]; rfl)), rfP_of (v := .slice (some ⟨g, off, none⟩) 64 cap) own_left⟩
  · have e1:((tkg A.ts a).st != 2)=true := by rw [h2]; simp [h1]
    rw [decide_eq_false h1, Bool.false_and] at Hr;clear h1 h2 hon2
    go_enter Tryz.func63, Tryz.ntmps63
    go_wp2_with fail;go_quiet (fail);go_wp2_with fail;go_ret;exact ⟨retB (by first | (rw [Hr.out]; done) | (rw [Hr.out]; rfl)), rfP_of (v := .slice (some ⟨g, off, none⟩) 64 cap) own_left⟩
theorem rfRule16 (pb:Nat) (A:Au) (a b v:Nat) (had:Bool) (cy co:Int) (w0 w:World) (F:HP) (hs:Sat w0 w (rfP pb A*F)) (hA:AOk A) (hok:okN 16 a b v=true) (hv:v<4294967296) :
  Calls Tryz.prog 63 #[.pointer (some ⟨pb,0,none⟩),evA 16 a b v cy co,.bool had] w (RetV w0 (.bool (rule A 16 a b v had)) (rfP pb A*F)):=by
 have ha:a<80:=by simp [okN,shp,win] at hok;omega
 have hb:b<32:=by simp [okN,shp,win] at hok;omega
 have Hr:=hid (rule16 A a b v had);have h3:(tkg A.ts a).st=(tkAt A a).st:=rfl;have h4:(tkg A.ts a).on=(tkAt A a).on:=rfl;generalize hx:acts A a=x at Hr;have Hx:=hid hx;clear hx;obtain ⟨g,off,cap,c1,c2,hs⟩:=rfP_out hA hs
 cases x
 ·rw [Bool.or_false] at Hr
  by_cases h1:a<64
  ·have i1:(a:Int)<64:=by omega
   have i2:decide (a<64)=true:=by simp;omega
   have i3:decide ((a:Int)<64)=true:=by simp;omega
   haveI:Lt a A.ts.length:=⟨by rw [hA.lt];omega⟩;have hon:=hA.on _ (tkg_mem (l:=A.ts) (k:=a) this.lt)
   by_cases h2:(tkAt A a).st=2
   ·have e2:((tkg A.ts a).st==2)=true:=by rw [h3];simp [h2]
    by_cases h5:(tkAt A a).on=96+b
    ·have e3:(((tkg A.ts a).on:Int)==96+(b:Int))=true:=by rw [h4];simp;omega
     rw [decide_eq_true ⟨h1,h2,h5⟩] at Hr;clear h1 h2 h3 h4 h5
     go_enter Tryz.func63,Tryz.ntmps63
     go_wp2_with fail;go_quiet (fail);go_wp2_with fail;refine (rfActsX pb A a _ Hx.out w0 _ any (rfP_of (v:=.slice (some ⟨g,off,none⟩) 64 cap) own_left) hA (by omega)).mono ?_;rintro e w' ⟨rfl,rfl⟩;go_wp2_with fail;go_ret;exact ⟨retB (by first | (rw [Hr.out];done) | (rw [Hr.out];rfl)),rfP_of (v:=.slice (some ⟨g,off,none⟩) 64 cap) own_left⟩
    ·have e3:(((tkg A.ts a).on:Int)==96+(b:Int))=false:=by rw [h4];simp;omega
     rw [decide_eq_false (fun h=>h5 h.2.2)] at Hr;clear h1 h2 h3 h4 h5
     go_enter Tryz.func63,Tryz.ntmps63
     go_wp2_with fail;go_quiet (fail);go_wp2_with fail;refine (rfActsX pb A a _ Hx.out w0 _ any (rfP_of (v:=.slice (some ⟨g,off,none⟩) 64 cap) own_left) hA (by omega)).mono ?_;rintro e w' ⟨rfl,rfl⟩;go_wp2_with fail;go_ret;exact ⟨retB (by first | (rw [Hr.out];done) | (rw [Hr.out];rfl)),rfP_of (v:=.slice (some ⟨g,off,none⟩) 64 cap) own_left⟩
   ·have e2:((tkg A.ts a).st==2)=false:=by rw [h3];simp [h2]
    rw [decide_eq_false (fun h=>h2 h.2.1)] at Hr;clear h1 h2 h3 h4
    go_enter Tryz.func63,Tryz.ntmps63
    go_wp2_with fail;go_quiet (fail);go_wp2_with fail;refine (rfActsX pb A a _ Hx.out w0 _ any (rfP_of (v:=.slice (some ⟨g,off,none⟩) 64 cap) own_left) hA (by omega)).mono ?_;rintro e w' ⟨rfl,rfl⟩;go_wp2_with fail;go_ret;exact ⟨retB (by first | (rw [Hr.out];done) | (rw [Hr.out];rfl)),rfP_of (v:=.slice (some ⟨g,off,none⟩) 64 cap) own_left⟩
  ·have i3:decide ((a:Int)<64)=false:=by simp;omega
   rw [decide_eq_false (fun h=>h1 h.1)] at Hr;clear h1 h3 h4
   go_enter Tryz.func63,Tryz.ntmps63
   go_wp2_with fail;go_quiet (fail);go_wp2_with fail;refine (rfActsX pb A a _ Hx.out w0 _ any (rfP_of (v:=.slice (some ⟨g,off,none⟩) 64 cap) own_left) hA (by omega)).mono ?_;rintro e w' ⟨rfl,rfl⟩;go_wp2_with fail;go_ret;exact ⟨retB (by first | (rw [Hr.out];done) | (rw [Hr.out];rfl)),rfP_of (v:=.slice (some ⟨g,off,none⟩) 64 cap) own_left⟩
 ·rw [Bool.or_true] at Hr;clear h3 h4
  go_enter Tryz.func63,Tryz.ntmps63
  go_wp2_with fail;go_quiet (fail);go_wp2_with fail;refine (rfActsX pb A a _ Hx.out w0 _ any (rfP_of (v:=.slice (some ⟨g,off,none⟩) 64 cap) own_left) hA (by omega)).mono ?_;rintro e w' ⟨rfl,rfl⟩;go_wp2_with fail;go_ret;exact ⟨retB (by first | (rw [Hr.out];done) | (rw [Hr.out];rfl)),rfP_of (v:=.slice (some ⟨g,off,none⟩) 64 cap) own_left⟩
theorem rfRule17 (pb:Nat) (A:Au) (a b v:Nat) (had:Bool) (cy co:Int) (w0 w:World) (F:HP) (hs:Sat w0 w (rfP pb A*F)) (hA:AOk A) (hok:okN 17 a b v=true) (hv:v<4294967296) :
  Calls Tryz.prog 63 #[.pointer (some ⟨pb,0,none⟩),evA 17 a b v cy co,.bool had] w (RetV w0 (.bool (rule A 17 a b v had)) (rfP pb A*F)):=by
 have ha:a<80:=by simp [okN,shp,win] at hok;omega
 have hb:b<32:=by simp [okN,shp,win] at hok;omega
 have Hr:=hid (rule17 A a b v had);have h3:(tkg A.ts a).st=(tkAt A a).st:=rfl;have h4:(tkg A.ts a).on=(tkAt A a).on:=rfl;generalize hx:acts A a=x at Hr;have Hx:=hid hx;clear hx;obtain ⟨g,off,cap,c1,c2,hs⟩:=rfP_out hA hs
 cases x
 ·rw [Bool.or_false] at Hr
  by_cases h1:a<64
  ·have i1:(a:Int)<64:=by omega
   have i2:decide (a<64)=true:=by simp;omega
   have i3:decide ((a:Int)<64)=true:=by simp;omega
   haveI:Lt a A.ts.length:=⟨by rw [hA.lt];omega⟩;have hon:=hA.on _ (tkg_mem (l:=A.ts) (k:=a) this.lt)
   by_cases h2:(tkAt A a).st=2
   ·have e2:((tkg A.ts a).st==2)=true:=by rw [h3];simp [h2]
    by_cases h5:(tkAt A a).on=128+b
    ·have e3:(((tkg A.ts a).on:Int)==128+(b:Int))=true:=by rw [h4];simp;omega
     rw [decide_eq_true ⟨h1,h2,h5⟩] at Hr;clear h1 h2 h3 h4 h5
     go_enter Tryz.func63,Tryz.ntmps63
     go_wp2_with fail;go_quiet (fail);go_wp2_with fail;refine (rfActsX pb A a _ Hx.out w0 _ any (rfP_of (v:=.slice (some ⟨g,off,none⟩) 64 cap) own_left) hA (by omega)).mono ?_;rintro e w' ⟨rfl,rfl⟩;go_wp2_with fail;go_ret;exact ⟨retB (by first | (rw [Hr.out];done) | (rw [Hr.out];rfl)),rfP_of (v:=.slice (some ⟨g,off,none⟩) 64 cap) own_left⟩
    ·have e3:(((tkg A.ts a).on:Int)==128+(b:Int))=false:=by rw [h4];simp;omega
     rw [decide_eq_false (fun h=>h5 h.2.2)] at Hr;clear h1 h2 h3 h4 h5
     go_enter Tryz.func63,Tryz.ntmps63
     go_wp2_with fail;go_quiet (fail);go_wp2_with fail;refine (rfActsX pb A a _ Hx.out w0 _ any (rfP_of (v:=.slice (some ⟨g,off,none⟩) 64 cap) own_left) hA (by omega)).mono ?_;rintro e w' ⟨rfl,rfl⟩;go_wp2_with fail;go_ret;exact ⟨retB (by first | (rw [Hr.out];done) | (rw [Hr.out];rfl)),rfP_of (v:=.slice (some ⟨g,off,none⟩) 64 cap) own_left⟩
   ·have e2:((tkg A.ts a).st==2)=false:=by rw [h3];simp [h2]
    rw [decide_eq_false (fun h=>h2 h.2.1)] at Hr;clear h1 h2 h3 h4
    go_enter Tryz.func63,Tryz.ntmps63
    go_wp2_with fail;go_quiet (fail);go_wp2_with fail;refine (rfActsX pb A a _ Hx.out w0 _ any (rfP_of (v:=.slice (some ⟨g,off,none⟩) 64 cap) own_left) hA (by omega)).mono ?_;rintro e w' ⟨rfl,rfl⟩;go_wp2_with fail;go_ret;exact ⟨retB (by first | (rw [Hr.out];done) | (rw [Hr.out];rfl)),rfP_of (v:=.slice (some ⟨g,off,none⟩) 64 cap) own_left⟩
  ·have i3:decide ((a:Int)<64)=false:=by simp;omega
   rw [decide_eq_false (fun h=>h1 h.1)] at Hr;clear h1 h3 h4
   go_enter Tryz.func63,Tryz.ntmps63
   go_wp2_with fail;go_quiet (fail);go_wp2_with fail;refine (rfActsX pb A a _ Hx.out w0 _ any (rfP_of (v:=.slice (some ⟨g,off,none⟩) 64 cap) own_left) hA (by omega)).mono ?_;rintro e w' ⟨rfl,rfl⟩;go_wp2_with fail;go_ret;exact ⟨retB (by first | (rw [Hr.out];done) | (rw [Hr.out];rfl)),rfP_of (v:=.slice (some ⟨g,off,none⟩) 64 cap) own_left⟩
 ·rw [Bool.or_true] at Hr;clear h3 h4
  go_enter Tryz.func63,Tryz.ntmps63
  go_wp2_with fail;go_quiet (fail);go_wp2_with fail;refine (rfActsX pb A a _ Hx.out w0 _ any (rfP_of (v:=.slice (some ⟨g,off,none⟩) 64 cap) own_left) hA (by omega)).mono ?_;rintro e w' ⟨rfl,rfl⟩;go_wp2_with fail;go_ret;exact ⟨retB (by first | (rw [Hr.out];done) | (rw [Hr.out];rfl)),rfP_of (v:=.slice (some ⟨g,off,none⟩) 64 cap) own_left⟩
theorem rn_b {r:Int} (h:0≤r∧r≤64) {b:Nat} (hb:b<64∨b=255):(rn r != (b:Int))=!decide (r=if b=255 then 0 else (b:Int)+1):=by
 unfold rn;rw [Bool.eq_iff_iff];simp only [bne_iff_ne,Bool.not_eq_true',decide_eq_false_iff_not,ne_eq]
 split<;>split<;>omega
theorem rfRule5 (pb:Nat) (A:Au) (a b v:Nat) (had:Bool) (cy co:Int) (w0 w:World) (F:HP) (hs:Sat w0 w (rfP pb A*F)) (hA:AOk A) (hok:okN 5 a b v=true) (hv:v<4294967296) :
  Calls Tryz.prog 63 #[.pointer (some ⟨pb,0,none⟩),evA 5 a b v cy co,.bool had] w (RetV w0 (.bool (rule A 5 a b v had)) (rfP pb A*F)):=by
 have ha:a<64∨a=255:=by simp [okN,shp,win] at hok;omega
 have hb:b<64∨b=255:=by simp [okN,shp,win] at hok;omega
 have hb2:b<256:=by omega
 have ha2:a<256:=by omega
 have hi:=hA.isr;have Hr:=hid (rule5 A a b v had);have hrn:=rn_b hA.run hb;have Hlt:=hid hA.lt;have Ha:=hid ha;generalize decide (A.run=if b=255 then 0 else (b:Int)+1)=y at *;clear hb ha;obtain ⟨g,off,cap,c1,c2,hs⟩:=rfP_out hA hs
 by_cases h1:A.isr=0
 ·have e1:decide (1≤A.isr)=false:=by simp;omega
  rw [decide_eq_true h1,Bool.true_and] at Hr;clear h1 hi
  cases y
  ·rw [Bool.false_and] at Hr;simp only [Bool.not_false] at hrn
   go_enter Tryz.func63,Tryz.ntmps63
   go_wp2_with fail;go_quiet (fail);go_wp2_with fail;go_ret;exact ⟨retB (by first | (rw [Hr.out];done) | (rw [Hr.out];rfl)),rfP_of (v:=.slice (some ⟨g,off,none⟩) 64 cap) own_left⟩
  ·rw [Bool.true_and] at Hr;simp only [Bool.not_true] at hrn
   by_cases h3:a=255
   ·have e3:((a:Int) != 255)=false:=by simp [h3]
    rw [if_pos h3] at Hr;clear h3
    go_enter Tryz.func63,Tryz.ntmps63
    go_wp2_with fail;go_quiet (fail);go_wp2_with fail;refine wp_gen (w0:=w0) ?_;intro wq hsq
    go_loop [9] (fun iv=>∃ k:Nat,k≤64∧iv=.int .i64 k∧((A.ts.take k).all fun t=>decide (t.st≠1))=true) (fun iv=>64-(intOf iv).toNat)
    case atStart=>exact ⟨0,by omega,rfl,by simp⟩
    case round =>
     obtain ⟨k,hk,rfl,hx⟩:=hrel;have Hx:=hid hx;clear hx
     by_cases hk64:k<64
     ·have i1:(k:Int)<64:=by omega
      have i2:decide (k<64)=true:=by simp;omega
      haveI:Lt k A.ts.length:=⟨by have:=Hlt.out;omega⟩;have Hn:=hid (all_next (ts:=A.ts) (k:=k) (by have:=Hlt.out;omega) (fun t=>decide (t.st≠1)))
      by_cases h6:(tkg A.ts k).st=1
      ·have e6:((tkg A.ts k).st==1)=true:=by simp [h6]
       have Hno:Hid (nobody A=false):=by
        unfold Hid nobody;rw [List.all_eq_false];exact ⟨tkg A.ts k,tkg_mem (by have:=Hlt.out;omega),by simp [h6]⟩
       clear h6;go_wp2_with fail;go_ret;exact ⟨retB (by rw [Hr.out,Hno.out]),rfP_of (v:=.slice (some ⟨g,off,none⟩) 64 cap) own_left⟩
      ·have e6:((tkg A.ts k).st==1)=false:=by simp [h6]
       have H6:Hid (((A.ts.take (k+1)).all fun t=>decide (t.st≠1))=true):=by
        unfold Hid;rw [Hn.out,Hx.out];simp [h6]
       clear h6;go_wp2_with fail
       go_round
       case rel=>exact ⟨k+1,by omega,by go_num,H6.out⟩
       case measure=>simp [intOf];omega
     ·have hke:k=64:=by omega
      subst hke;have Hno:Hid (nobody A=true):=by
       unfold Hid nobody;have:=Hx.out
       rwa [List.take_of_length_le (by have:=Hlt.out;omega)] at this
      go_wp2_with fail;go_ret;exact ⟨retB (by rw [Hr.out,Hno.out]),rfP_of (v:=.slice (some ⟨g,off,none⟩) 64 cap) own_left⟩
   ·have e3:((a:Int) != 255)=true:=by simp;omega
    rw [if_neg h3] at Hr;have ha64:a<64:=by have:=Ha.out;omega
    have i1:(a:Int)<64:=by omega
    have i2:decide (a<64)=true:=by simp;omega
    haveI:Lt a A.ts.length:=⟨by have:=Hlt.out;omega⟩;clear h3
    go_enter Tryz.func63,Tryz.ntmps63
    go_wp2_with fail;go_quiet (fail);go_wp2_with fail;go_ret;exact ⟨retB (by rw [Hr.out];exact beqD _ _),rfP_of (v:=.slice (some ⟨g,off,none⟩) 64 cap) own_left⟩
 ·have e1:decide (1≤A.isr)=true:=by simp;omega
  rw [decide_eq_false h1,Bool.false_and,Bool.false_and] at Hr;clear h1
  go_enter Tryz.func63,Tryz.ntmps63
  go_wp2_with fail;go_quiet (fail);go_wp2_with fail;go_ret;exact ⟨retB (by first | (rw [Hr.out];done) | (rw [Hr.out];rfl)),rfP_of (v:=.slice (some ⟨g,off,none⟩) 64 cap) own_left⟩
theorem rfRule (pb:Nat) (A:Au) (k a b v:Nat) (hk:1≤k∧k≤24) (had:Bool) (cy co:Int) (w0 w:World) (F:HP) (hs:Sat w0 w (rfP pb A*F)) (hA:AOk A) (hok:okN k a b v=true) (hv:v<4294967296) :
  Calls Tryz.prog 63 #[.pointer (some ⟨pb,0,none⟩),evA k a b v cy co,.bool had] w (RetV w0 (.bool (rule A k a b v had)) (rfP pb A*F)):=by
 have h:k=1∨k=2∨k=3∨k=4∨k=5∨k=6∨k=7∨k=8∨k=9∨k=10∨k=11∨k=12∨k=13∨k=14∨k=15∨k=16∨k=17∨k=18∨k=19∨k=20∨k=21∨k=22∨k=23∨k=24:=by omega
 rcases h with rfl | rfl | rfl | rfl | rfl | rfl | rfl | rfl | rfl | rfl | rfl | rfl | rfl | rfl | rfl | rfl | rfl | rfl | rfl | rfl | rfl | rfl | rfl | rfl
 ·exact rfRule1 pb A a b v had cy co w0 w F hs hA hok hv
 ·exact rfRule2 pb A a b v had cy co w0 w F hs hA hok hv
 ·exact rfRule3 pb A a b v had cy co w0 w F hs hA hok hv
 ·exact rfRule4 pb A a b v had cy co w0 w F hs hA hok hv
 ·exact rfRule5 pb A a b v had cy co w0 w F hs hA hok hv
 ·exact rfRule6 pb A a b v had cy co w0 w F hs hA hok hv
 ·exact rfRule7 pb A a b v had cy co w0 w F hs hA hok hv
 ·exact rfRule8 pb A a b v had cy co w0 w F hs hA hok hv
 ·exact rfRule9 pb A a b v had cy co w0 w F hs hA hok hv
 ·exact rfRule10 pb A a b v had cy co w0 w F hs hA hok hv
 ·exact rfRule11 pb A a b v had cy co w0 w F hs hA hok hv
 ·exact rfRule12 pb A a b v had cy co w0 w F hs hA hok hv
 ·exact rfRule13 pb A a b v had cy co w0 w F hs hA hok hv
 ·exact rfRule14 pb A a b v had cy co w0 w F hs hA hok hv
 ·exact rfRule15 pb A a b v had cy co w0 w F hs hA hok hv
 ·exact rfRule16 pb A a b v had cy co w0 w F hs hA hok hv
 ·exact rfRule17 pb A a b v had cy co w0 w F hs hA hok hv
 ·exact rfRule18 pb A a b v had cy co w0 w F hs hA hok hv
 ·exact rfRule19 pb A a b v had cy co w0 w F hs hA hok hv
 ·exact rfRule20 pb A a b v had cy co w0 w F hs hA hok hv
 ·exact rfRule21 pb A a b v had cy co w0 w F hs hA hok hv
 ·exact rfRule22 pb A a b v had cy co w0 w F hs hA hok hv
 ·exact rfRule23 pb A a b v had cy co w0 w F hs hA hok hv
 ·exact rfRule24 pb A a b v had cy co w0 w F hs hA hok hv
end Go.Proofs.YtkeommmigopnkaaGreatDoor
