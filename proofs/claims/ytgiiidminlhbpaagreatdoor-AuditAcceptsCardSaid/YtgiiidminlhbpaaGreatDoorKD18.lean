/-
  Parts of the proof: AdL AdN AdO AccKw Tie7.
-/
import Derived.ProofKit
import Derived.LaidMore
import Derived.LaidLaws
import Derived.OpenShut
import Derived.ChangeVars
import Derived.Stop.Joined
import Derived.Test.YtgiiidminlhbpaaGreatDoorKD0
import Derived.Test.YtgiiidminlhbpaaGreatDoorKD5
import Derived.Test.YtgiiidminlhbpaaGreatDoorKD7
import Derived.Test.YtgiiidminlhbpaaGreatDoorKD13
import Derived.Test.YtgiiidminlhbpaaGreatDoorKD14
import Derived.Test.YtgiiidminlhbpaaGreatDoorKD15
import Derived.Test.YtgiiidminlhbpaaGreatDoorKD17
set_option linter.unusedVariables false
set_option linter.unusedSimpArgs false
set_option maxHeartbeats 32000000
set_option maxRecDepth 100000
namespace Go.Proofs.YtgiiidminlhbpaaGreatDoor
open Go.Proofs.YtgiiidminlhbpaaGreatDoor.EvK
open Go.RowKit Go.Sx Go.Au
theorem ztd {w0 w:World} {P A B C F1 F2 F3:HP} [hs:Sat w0 w P] [h:z2u P A F1] [h2:z2u F1 B F2] [h3:z2u F2 C F3]:Sat w0 w (A*(B*(C*any))) :=
 ((hs.perm (by rw [h.eq,h2.eq,h3.eq];ac_rfl:P=A*B*C*F3)).toAny).perm (by ac_rfl)
theorem zub (pb:Nat) (A:Au) (k:Nat) (cy co:Int) (a b v:Nat) (w0 w:World) (F:HP) (hs:Sat w0 w (auP pb A*F)) (hA:AOk A) (hseen:0≤A.seen∧A.seen<1000000000) (hkk:1≤k∧k≤24) (hok:okN k a b v=true) (hv:VOk k v)
    (hno:okE ⟨k, cy, co, a, b, v⟩=true) (h1:A.last.k≠24) (h2:A.last.co≤co) (h3:A.last.cy≤cy) (hd:A.due=⟨k, a, b⟩) :
    Calls Tryz.prog 9 #[.pointer (some ⟨pb, 0, none⟩), evV ⟨k, cy, co, a, b, v⟩] w (Nx w0 pb A ⟨k, cy, co, a, b, v⟩ F) := by
  have hs := zsU hs;have hA0:AOk { A with due := du0 } := ⟨hA.lt, hA.lo, hA.lp, hA.st, hA.late, hA.on, hA.job, hA.lev, hA.own, hA.isr, hA.run, hA.co, hA.cy, show (0:Int)≤0∧(0:Int)≤24 by decide, show (0:Nat)<256 by decide, show (0:Nat)<256 by decide, fun _ => rfl⟩;have Hk:Hid (zm5 A ⟨k, cy, co, a, b, v⟩=zob { A with due := du0 } k a b v true) := by
    unfold Hid zm5 zlU znZ;rw [hd];have e:decide ((⟨k, a, b⟩:Du)=⟨k, a, b⟩)=true := by
      exact decide_eq_true rfl
    rw [e]; simp [hno, h1, h2, h3]
  have Hst:Hid (znJ A ⟨k, cy, co, a, b, v⟩={ znq { A with due := du0 } k a b v with last := ⟨k, cy, co, a, b, v⟩, seen := A.seen+1 }) := rfl;have Hsn := hid (ztl { A with due := du0 } k a b v);dsimp only at Hsn;rw [hd] at hs;unfold evV;dsimp only;dsimp only [zt7] at hs;have Hno := hid hno;have d1:(A.last.k != 24)=true := by simp [h1]
  have d2:decide (A.last.co≤co)=true := by simp; omega
  have d3:decide (A.last.cy≤cy)=true := by simp; omega
  clear hno h1 h2 h3 hd;have g0:¬ (k:Int)=0 := by omega
  have g1:¬ (0:Int)=(k:Int) := by omega
  generalize hr:zob { A with due := du0 } k a b v true=r at Hk;have Hr := hid hr;clear hr
  cases r
  all_goals
    go_enter Tryz.func9, Tryz.ntmps9
    go_wp2_with fail;refine z9 (w0 := w0) ?_;intro wx hsx;refine zj (fun w' => Sat w0 w' (pts w.heap.size 0 [.int .i64 k, .int .u64 cy, .int .u64 co, .int .u32 a, .int .u32 b, .int .u32 v]*(pts pb 2 (zjY A.last)*any))) [(0, true), (1, false), (2, true), (3, true), (4, true), (5, true), (6, true), (7, true), (8, true), (9, true), (10, true), (11, true), (12, true), (13, true), (14, true), (15, true), (16, true), (17, true), (18, true), (19, true), (20, true), (21, true), (22, true), (23, true), (24, true), (25, true), (26, true), (27, true), (28, true), (29, true), (30, true), (31, true)] (by kernel_rfl) (by kernel_rfl) (fun _ _ _ _ h => h) zk ?_
    iterate 1 (first | refine zsR ?_ | refine zsQ ?_)
    refine z29 rfl (by rfl) (fun K hK => ?_);go_wp2_with fail;refine (ztc k cy co a b v w0 _ _).mono ?_;rintro en w1 ⟨n, rfl, hn, hs1⟩;obtain rfl:n=0 := hn.2 Hno.out;clear hn;go_wp2_with fail;refine ⟨zk, ?_⟩
    iterate 30 (first | refine zsR ?_ | refine zsQ ?_)
    refine zB ?_;clear hs hsx;go_wp2_with fail;refine zj (fun w' => Sat w0 w' (pts w.heap.size 0 [.int .i64 k, .int .u64 cy, .int .u64 co, .int .u32 a, .int .u32 b, .int .u32 v]*(pts (w.heap.size+1) 0 [.int .i64 k, .int .u32 a, .int .u32 b]*(pts (w.heap.size+1+1) 0 [.int .i64 k, .int .u32 a, .int .u32 b]*any)))) [(0, true), (1, true), (2, true), (3, true), (4, true), (5, true), (6, true), (7, true), (8, false), (9, true), (10, true)] (by kernel_rfl) (by kernel_rfl) (fun _ _ _ _ h => h) ztd ?_
    iterate 8 (first | refine zsR ?_ | refine zsQ ?_)
    refine z29 rfl (by rfl) (fun K hK => ?_);go_wp2_with fail;refine (zuq pb { A with due := du0 } k a b v hkk true cy co w0 _ (pts w.heap.size 0 [.int .i64 k, .int .u64 cy, .int .u64 co, .int .u32 a, .int .u32 b, .int .u32 v]*(pts (w.heap.size+1) 0 [.int .i64 k, .int .u32 a, .int .u32 b]*(pts (w.heap.size+1+1) 0 [.int .i64 k, .int .u32 a, .int .u32 b]*F))) (zsS z3) hA0 hok hv).mono ?_;rintro en w2 ⟨rfl, hy, hn⟩;clear hs1;rw [Hr.out] at hy hn ⊢
    first
      | (have hs2 := zsU (hy rfl)
         clear hy hn;generalize znq { A with due := du0 } k a b v=B at hs2 Hst Hsn;have hb1:0≤B.seen∧B.seen<1000000000 := by have := Hsn.out; omega
         go_wp2_with fail
         (first | refine ⟨ztd, ?_⟩ | skip)
         iterate 2 (first | refine zsR ?_ | refine zsQ ?_)
         refine zB ?_;go_wp2_with fail;go_ret;refine zvv Hk.out (zsS ?_);rw [Hst.out];dsimp only;rw [← Hsn.out];exact z3)
      | (have hs2 := hn rfl
         clear hy hn;go_wp2_with fail
         (first | refine ⟨ztd, ?_⟩ | skip)
         iterate 2 (first | refine zsR ?_ | refine zsQ ?_)
         refine zB ?_;go_wp2_with fail;go_ret;exact ztB Hk.out z3)
theorem ztQ (pb:Nat) (A:Au) (k:Nat) (cy co:Int) (a b v:Nat) (w0 w:World) (F:HP) (hs:Sat w0 w (auP pb A*F)) (hA:AOk A) (hseen:0≤A.seen∧A.seen<1000000000) (hkk:1≤k∧k≤24) (hok:okN k a b v=true) (hv:VOk k v)
    (hno:okE ⟨k, cy, co, a, b, v⟩=true) (h1:A.last.k≠24) (h2:A.last.co≤co) (h3:A.last.cy≤cy) (hd:A.due=du0) :
    Calls Tryz.prog 9 #[.pointer (some ⟨pb, 0, none⟩), evV ⟨k, cy, co, a, b, v⟩] w (Nx w0 pb A ⟨k, cy, co, a, b, v⟩ F) := by
  have hs := zsU hs;have hA0:AOk { A with due := du0 } := ⟨hA.lt, hA.lo, hA.lp, hA.st, hA.late, hA.on, hA.job, hA.lev, hA.own, hA.isr, hA.run, hA.co, hA.cy, show (0:Int)≤0∧(0:Int)≤24 by decide, show (0:Nat)<256 by decide, show (0:Nat)<256 by decide, fun _ => rfl⟩;have Hk:Hid (zm5 A ⟨k, cy, co, a, b, v⟩=zob { A with due := du0 } k a b v false) := by
    unfold Hid zm5 zlU znZ;rw [hd];have e:decide ((du0:Du)=⟨k, a, b⟩)=false := by
      refine decide_eq_false fun h => ?_; have := congrArg Du.k h; simp at this; omega
    rw [e]; simp [hno, h1, h2, h3]
  have Hst:Hid (znJ A ⟨k, cy, co, a, b, v⟩={ znq { A with due := du0 } k a b v with last := ⟨k, cy, co, a, b, v⟩, seen := A.seen+1 }) := rfl;have Hsn := hid (ztl { A with due := du0 } k a b v);dsimp only at Hsn;rw [hd] at hs;unfold evV;dsimp only;dsimp only [zt7] at hs;have Hno := hid hno;have d1:(A.last.k != 24)=true := by simp [h1]
  have d2:decide (A.last.co≤co)=true := by simp; omega
  have d3:decide (A.last.cy≤cy)=true := by simp; omega
  clear hno h1 h2 h3 hd;have g0:¬ (k:Int)=0 := by omega
  have g1:¬ (0:Int)=(k:Int) := by omega
  generalize hr:zob { A with due := du0 } k a b v false=r at Hk;have Hr := hid hr;clear hr
  cases r
  all_goals
    go_enter Tryz.func9, Tryz.ntmps9
    go_wp2_with fail;refine z9 (w0 := w0) ?_;intro wx hsx;refine zj (fun w' => Sat w0 w' (pts w.heap.size 0 [.int .i64 k, .int .u64 cy, .int .u64 co, .int .u32 a, .int .u32 b, .int .u32 v]*(pts pb 2 (zjY A.last)*any))) [(0, true), (1, false), (2, true), (3, true), (4, true), (5, true), (6, true), (7, true), (8, true), (9, true), (10, true), (11, true), (12, true), (13, true), (14, true), (15, true), (16, true), (17, true), (18, true), (19, true), (20, true), (21, true), (22, true), (23, true), (24, true), (25, true), (26, true), (27, true), (28, true), (29, true), (30, true), (31, true)] (by kernel_rfl) (by kernel_rfl) (fun _ _ _ _ h => h) zk ?_
    iterate 1 (first | refine zsR ?_ | refine zsQ ?_)
    refine z29 rfl (by rfl) (fun K hK => ?_);go_wp2_with fail;refine (ztc k cy co a b v w0 _ _).mono ?_;rintro en w1 ⟨n, rfl, hn, hs1⟩;obtain rfl:n=0 := hn.2 Hno.out;clear hn;go_wp2_with fail;refine ⟨zk, ?_⟩
    iterate 30 (first | refine zsR ?_ | refine zsQ ?_)
    refine zB ?_;clear hs hsx;go_wp2_with fail;refine zj (fun w' => Sat w0 w' (pts w.heap.size 0 [.int .i64 k, .int .u64 cy, .int .u64 co, .int .u32 a, .int .u32 b, .int .u32 v]*(pts (w.heap.size+1) 0 [.int .i64 0, .int .u32 0, .int .u32 0]*(pts (w.heap.size+1+1) 0 [.int .i64 k, .int .u32 a, .int .u32 b]*any)))) [(0, true), (1, true), (2, true), (3, true), (4, true), (5, true), (6, true), (7, true), (8, false), (9, true), (10, true)] (by kernel_rfl) (by kernel_rfl) (fun _ _ _ _ h => h) ztd ?_
    iterate 8 (first | refine zsR ?_ | refine zsQ ?_)
    refine z29 rfl (by rfl) (fun K hK => ?_);go_wp2_with fail;refine (zuq pb { A with due := du0 } k a b v hkk false cy co w0 _ (pts w.heap.size 0 [.int .i64 k, .int .u64 cy, .int .u64 co, .int .u32 a, .int .u32 b, .int .u32 v]*(pts (w.heap.size+1) 0 [.int .i64 0, .int .u32 0, .int .u32 0]*(pts (w.heap.size+1+1) 0 [.int .i64 k, .int .u32 a, .int .u32 b]*F))) (zsS z3) hA0 hok hv).mono ?_;rintro en w2 ⟨rfl, hy, hn⟩;clear hs1;rw [Hr.out] at hy hn ⊢
    first
      | (have hs2 := zsU (hy rfl)
         clear hy hn;generalize znq { A with due := du0 } k a b v=B at hs2 Hst Hsn;have hb1:0≤B.seen∧B.seen<1000000000 := by have := Hsn.out; omega
         go_wp2_with fail
         (first | refine ⟨ztd, ?_⟩ | skip)
         iterate 2 (first | refine zsR ?_ | refine zsQ ?_)
         refine zB ?_;go_wp2_with fail;go_ret;refine zvv Hk.out (zsS ?_);rw [Hst.out];dsimp only;rw [← Hsn.out];exact z3)
      | (have hs2 := hn rfl
         clear hy hn;go_wp2_with fail
         (first | refine ⟨ztd, ?_⟩ | skip)
         iterate 2 (first | refine zsR ?_ | refine zsQ ?_)
         refine zB ?_;go_wp2_with fail;go_ret;exact ztB Hk.out z3)
theorem zuG (pb:Nat) (A:Au) (e:Ev) (w0 w:World) (F:HP) (hs:Sat w0 w (auP pb A*F)) (hA:AOk A) (he:zvr e) (hseen:0≤A.seen∧A.seen<1000000000) :
  Calls Tryz.prog 9 #[.pointer (some ⟨pb,0,none⟩),evV e] w (Nx w0 pb A e F):=by
 obtain ⟨k,cy,co,a,b,v⟩:=e
 by_cases h0:okE ⟨k,cy,co,a,b,v⟩=true
 ·have h0':=h0;unfold okE at h0';simp only [Bool.and_eq_true,decide_eq_true_eq] at h0';obtain ⟨hkk,hok⟩:=h0'
  by_cases h1:A.last.k=24
  ·exact ztF pb A k cy co a b v w0 w F hs h0 h1
  ·by_cases h2:A.last.co≤co
   ·by_cases h3:A.last.cy≤cy
    ·obtain ⟨n,rfl⟩:=Int.eq_ofNat_of_zero_le (show 0≤k by omega);have hok:okN n a b v=true:=hok;have hkk:1≤n∧n≤24:=by omega
     by_cases h4:A.due.k=0
     ·exact ztQ pb A n cy co a b v w0 w F hs hA hseen hkk hok he.v h0 h1 h2 h3 (hA.dz h4)
     ·by_cases h5:A.due=⟨n,a,b⟩
      ·exact zub pb A n cy co a b v w0 w F hs hA hseen hkk hok he.v h0 h1 h2 h3 h5
      ·exact zua pb A n cy co a b v w0 w F hs h0 h1 h2 h3 A.due.k A.due.a A.due.b rfl h4 (fun ⟨q1,q2,q3⟩=>h5 (by rw [← q1,← q2,← q3]))
    ·exact zuI pb A k cy co a b v w0 w F hs h0 h1 h2 h3
   ·exact zuH pb A k cy co a b v w0 w F hs h0 h1 h2
 ·exact zuJ pb A k cy co a b v w0 w F hs (by simpa using h0)
theorem zvV (pb:Nat) (s:Int) (r:List Value) (w0 w:World) (F:HP) (hs:Sat w0 w (pts pb 0 (.int .i64 s::r)*F)) :
  Calls Tryz.prog 11 #[.pointer (some ⟨pb,0,none⟩)] w (fun en w'=>en=.returned (.int .i64 s)∧w=w'):=by
 go_enter Tryz.func11,Tryz.ntmps11
 go_wp2_with fail;go_ret;exact ⟨rfl,rfl⟩
theorem zv3 (pb:Nat) (s:Value) (x:Bool) (w0 w:World) (F:HP) (hs:Sat w0 w (pts pb 0 [s,.bool x]*F)) :
  Calls Tryz.prog 10 #[.pointer (some ⟨pb,0,none⟩)] w (fun en w'=>en=.returned (.bool x)∧w=w'):=by
 go_enter Tryz.func10,Tryz.ntmps10
 go_wp2_with fail;go_ret;exact ⟨rfl,rfl⟩
def ztN:Array Value:=(([.int .i64 0,.bool false]++(zjY ev0++(zt7 du0++(cellsOf au0.ts++(au0.ow.map (Value.int .i64)++(au0.pn.map Value.bool++[.int .i64 0,.int .i64 0])))))):List Value).toArray
theorem zuX (w:World):Sem.run Tryz.prog (zeroValue 60) w=.ok (.agg ztN) w:=by kernel_rfl
theorem zu8:Tryz.zeroCells60=ztN:=by kernel_rfl
theorem ztn:ztN.size=381:=by kernel_rfl
theorem zu9:ztN≠#[]:=fun h=>by have:=ztn;rw [h] at this;exact absurd this (by decide)
theorem zui:ztN.toList=[.int .i64 0,.bool false]++(zjY ev0++(zt7 du0++(cellsOf au0.ts++(au0.ow.map (Value.int .i64)++(au0.pn.map Value.bool++[.int .i64 0,.int .i64 0]))))):=rfl
theorem zuK {w0 w:World} {F:HP} (hs:Sat w0 w F) (t:TypeId):Sat w0 (w.alloc (.cells ztN t)) (auP w.heap.size au0*F):=by
 have h1:=hs.alloc ztN t;rw [zui,zd,zd,zd,zd,zd,zd] at h1;have e:(cellsOf au0.ts).length=320:=by rw [zJ];rfl
 rw [e] at h1;have h2:Sat w0 (w.alloc (.cells ztN t)) (auP w.heap.size au0*F):=h1;exact h2
def ztx (w0:World) (F:HP) (v:Value) (l:List Ev):Prop:=∀ w,Sat w0 w F→RdR w v l
theorem zvn {w0 w:World} {P G:HP} {g o:Nat} {pre l post:List Ev} (n cap:Nat) [hs:Sat w0 w P] [h:z64 P g o (cellsOf (pre++(l++post))) G] (hn:n=l.length) (hc:n≤cap) (hm:cap≤maxLen):RdR w (.slice (some ⟨g,o+pre.length*6,none⟩) n cap) l:=by
 have h1:Sat w0 w (pts g o (cellsOf (pre++(l++post)))*G):=hs.perm h.eq;subst hn;refine ⟨_,cap,g,o+pre.length*6,rfl,hc,hm,fun _=>rfl,fun j u hj=>?_⟩;have hj':j<(cellsOf l).length:=(List.getElem?_eq_some_iff.1 hj).1;have h2:(cellsOf (pre++(l++post)))[pre.length*6+j]?=some u:=by
  rw [z0g,z0g,List.getElem?_append_right (by rw [zJ];omega),zJ,Nat.add_sub_cancel_left,List.getElem?_append_left hj',hj]
 have:=h1.cell h2
 rwa [← Nat.add_assoc] at this
attribute [local simp,local go_sem] zuX ztn zu9
theorem zts (v:Value) (l:List Ev) (hl:l.length<1000000) (hev:∀ e∈l,zvr e) (w0 w:World) (F:HP) (hs:Sat w0 w F) (hst:ztx w0 F v l) :
  Calls Tryz.prog 8 #[v] w (zp w0 (.int .i64 (zuY l)) F):=by
 have hst':=hid hst;obtain ⟨a,cap,b,off,rfl,hcap,hbig,ha,hc⟩:=hst w hs;have Ha:=hid ha;have Hev:=hid hev;clear hc ha hst hev;unfold maxLen at hbig;have hs1:=zuK hs 60;rw [← zu8] at hs1
 go_enter Tryz.func8,Tryz.ntmps8
 go_wp2_with fail;refine z9 (w0:=w0) ?_;intro wx hsx;generalize w.heap.size=pb at *;clear hs hs1
 go_loopw [8] (fun i wr=>∃ (k:Nat) (A:Au),k≤l.length∧i=.int .i64 k∧AOk A∧A.seen=k∧Run l k A∧Sat w0 wr (auP pb A*(F*any))) (fun i _=>l.length-(intOf i).toNat)
 case atStart=>exact ⟨0,au0,by omega,rfl,zwa,rfl,zwt l,z3⟩
 case round =>
  obtain ⟨k,A,hk,rfl,hA,hse,hrun,hs2⟩:=hrel;have Hrun:=hid hrun;have Hse:=hid hse;clear hrun hse hsx
  by_cases hlt:k<l.length
  ·have hin:l[k]∈l:=List.getElem_mem hlt;have hek:=Hev.out _ hin;have hrd:=hst'.out wr z3;obtain ⟨a2,cap2,g,off2,e,h3,h4,h5,h6⟩:=hrd;simp only [Value.slice.injEq] at e;obtain ⟨rfl,_,rfl⟩:=e;obtain rfl:=h5 (by rintro rfl;simp at hlt);have hcell:∀ c,c<6→wr.cell? ⟨g,off2+k*6+c,none⟩=(zjY l[k])[c]?:=fun c hc=>by
    have h7:=z0Y (E:=zjV) (l:=l) (k:=k) (c:=c) hlt hc;have h8:l.getD k zjV.dft=l[k]:=by simp [List.getD,hlt]
    rw [h8] at h7;have h9:c<(zjY l[k]).length:=hc;rw [List.getElem?_eq_getElem h9];rw [Nat.add_assoc];refine h6 _ _ (h7.trans ?_);exact List.getElem?_eq_getElem h9
   have q0:=hcell 0 (by decide);have q1:=hcell 1 (by decide);have q2:=hcell 2 (by decide);have q3:=hcell 3 (by decide);have q4:=hcell 4 (by decide);have q5:=hcell 5 (by decide);clear hcell h6 hin;have Hl:Hid (∀ e,l[k]=e→l[k]=e):=fun _ h=>h;generalize hle:l[k]=e at *;have Hle:=hid hle;clear hle Hl;obtain ⟨ek,ecy,eco,ea,eb,ev⟩:=e;simp only [zjY,List.getElem?_cons_zero,List.getElem?_cons_succ,Nat.add_zero] at q0 q1 q2 q3 q4 q5;have hI:(k:Int)<(l.length:Int):=by omega
   go_wp2_with fail;refine (zuG pb A ⟨ek,ecy,eco,ea,eb,ev⟩ w0 _ (F*any) z3 hA hek ⟨by have:=Hse.out;omega,by have:=Hse.out;omega⟩).mono ?_;rintro en w2 ⟨rfl,hy,hn⟩;clear hs2;generalize hr:zm5 A ⟨ek,ecy,eco,ea,eb,ev⟩=r at hy hn ⊢;have Hr:=hid hr;clear hr
   cases r
   ·have hs3:=hn rfl;clear hn hy;go_wp2_with fail;go_ret;refine ⟨?_,z3⟩;have:=zuT hlt Hrun.out Hle.out Hr.out;unfold zuY;rw [this]
    rfl
   ·have hs3:=hy rfl;clear hn hy;go_wp2_with fail;go_roundw
    case rel=>exact ⟨k+1,znJ A ⟨ek,ecy,eco,ea,eb,ev⟩,by omega,by go_num,ztz hA hek Hr.out,by rw [zuU,Hse.out];omega,zvp hlt Hrun.out Hle.out Hr.out,z3⟩
    case measure=>simp [intOf];omega
  ·have hke:k=l.length:=by omega
   subst hke;go_wp2_with fail;go_ret;refine ⟨?_,z3⟩;unfold zuY;rw [zvN Hrun.out]
   rfl
end Go.Proofs.YtgiiidminlhbpaaGreatDoor
namespace Go.Proofs.YtgiiidminlhbpaaGreatDoor
open Go.Proofs.YtgiiidminlhbpaaGreatDoor.EvK
open Go.RowKit Go.Sx Go.Au
def aw0:Ev:=⟨6,0,0,0,0,1⟩
def aw1:Ev:=⟨5,0,0,0,255,0⟩
def aw2:Ev:=⟨12,0,0,0,3,0⟩
abbrev awL:List Ev:=[aw0,aw1,aw2,aw2]
theorem zuc:∀ e∈awL,zvr e:=by
 intro e he;simp at he
 rcases he with rfl | rfl | rfl<;>exact ⟨by decide,by decide,by decide,by decide,by decide⟩
theorem zwb:zuY awL=3:=by decide +kernel
theorem zwc:zuY (awL.take 3)=-1:=by decide +kernel
theorem zwd:zuY (awL.drop 1)=0:=by decide +kernel
theorem zvD:zm5 au0 aw0=true:=by decide +kernel
theorem zwe:zm5 (znJ au0 aw0) aw2=false:=by decide +kernel
theorem zvE {w0:World} {g:Nat} {F G:HP} (pre l post:List Ev) (n cap o:Nat) (ho:o=pre.length*6) (hn:n=l.length) (hc:n≤cap) (hm:cap≤maxLen) (hl:pre++(l++post)=awL) (e:F=pts g 0 (cellsOf awL)*G):ztx w0 F (.slice (some ⟨g,o,none⟩) n cap) l:=fun w hw=>by
 subst e;rw [← hl] at hw;haveI:=hw;have:=zvn (g:=g) (o:=0) (pre:=pre) (l:=l) (post:=post) (w0:=w0) (w:=w) n cap hn hc hm;rw [Nat.zero_add,← ho] at this;exact this
attribute [local simp,local go_sem] zuX ztn zu9
theorem zup (w0 w:World) (F:HP) (hs:Sat w0 w F) :
  Calls Tryz.prog 4 #[] w (zp w0 (.bool true) F):=by
 have K1:=hid zwe;have hA:Sat w0 (w.alloc (.cells #[.int .i64 6,.int .u64 0,.int .u64 0,.int .u32 0,.int .u32 0,.int .u32 1,.int .i64 5,.int .u64 0,.int .u64 0,.int .u32 0,.int .u32 255,.int .u32 0,.int .i64 12,.int .u64 0,.int .u64 0,.int .u32 0,.int .u32 3,.int .u32 0,.int .i64 12,.int .u64 0,.int .u64 0,.int .u32 0,.int .u32 3,.int .u32 0] 51)) (pts w.heap.size 0 (cellsOf awL)*F):=hs.alloc _ _;have hB:=zuK hA 60;rw [← zu8] at hB;have hz:(w.alloc (.cells #[.int .i64 6,.int .u64 0,.int .u64 0,.int .u32 0,.int .u32 0,.int .u32 1,.int .i64 5,.int .u64 0,.int .u64 0,.int .u32 0,.int .u32 255,.int .u32 0,.int .i64 12,.int .u64 0,.int .u64 0,.int .u32 0,.int .u32 3,.int .u32 0,.int .i64 12,.int .u64 0,.int .u64 0,.int .u32 0,.int .u32 3,.int .u32 0] 51)).heap.size=w.heap.size+1:=by simp
 rw [hz] at hB;clear hz hA
 go_enter Tryz.func4,Tryz.ntmps4
 go_wp2_with fail;generalize w.heap.size=g at *;refine (zts _ awL (by decide) zuc w0 _ _ hB (zvE [] awL [] 4 4 0 rfl rfl (by decide) (by decide) rfl (by ac_rfl:_=pts g 0 (cellsOf awL)*(auP (g+1) au0*F)))).mono ?_;rintro e w1 ⟨rfl,hs1⟩;rw [zwb];clear hB;go_wp2_with fail;refine (zts _ (awL.take 3) (by decide) (fun e he=>zuc e (List.mem_of_mem_take he)) w0 _ _ hs1 (zvE [] (awL.take 3) (awL.drop 3) 3 4 0 rfl rfl (by decide) (by decide) rfl (by ac_rfl:_=pts g 0 (cellsOf awL)*(auP (g+1) au0*F)))).mono ?_;rintro e w2 ⟨rfl,hs2⟩;rw [zwc];clear hs1;go_wp2_with fail;refine (zts _ (awL.drop 1) (by decide) (fun e he=>zuc e (List.mem_of_mem_drop he)) w0 _ _ hs2 (zvE (awL.take 1) (awL.drop 1) [] 3 3 6 rfl rfl (by decide) (by decide) rfl (by ac_rfl:_=pts g 0 (cellsOf awL)*(auP (g+1) au0*F)))).mono ?_;rintro e w3 ⟨rfl,hs3⟩;rw [zwd];clear hs2;have hs4:Sat w0 w3 (auP (g+1) au0*(pts g 0 [.int .i64 6,.int .u64 0,.int .u64 0,.int .u32 0,.int .u32 0,.int .u32 1,.int .i64 5,.int .u64 0,.int .u64 0,.int .u32 0,.int .u32 255,.int .u32 0,.int .i64 12,.int .u64 0,.int .u64 0,.int .u32 0,.int .u32 3,.int .u32 0,.int .i64 12,.int .u64 0,.int .u64 0,.int .u32 0,.int .u32 3,.int .u32 0]*F)):=hs3;clear hs3;go_wp2_with fail;refine (zuG (g+1) au0 aw0 w0 _ _ hs4 zwa (zuc _ (by simp)) (by decide)).mono ?_;rintro e w4 ⟨rfl,hy,_⟩;have hs5:=hy zvD;rw [zvD];clear hs4 hy;go_wp2_with fail;refine (zuG (g+1) (znJ au0 aw0) aw2 w0 _ _ hs5 (ztz zwa (zuc _ (by simp)) zvD) (zuc _ (by simp)) (by decide)).mono ?_;rintro e w5 ⟨rfl,_,hn⟩;have hs6:=hn K1.out;rw [K1.out];clear hs5 hn;go_wp2_with fail;refine (zv3 (g+1) _ true w0 _ _ hs6).mono ?_;rintro e w6 ⟨rfl,rfl⟩;go_wp2_with fail;refine (zvV (g+1) _ _ w0 _ _ hs6).mono ?_;rintro e w7 ⟨rfl,rfl⟩;go_wp2_with fail;go_ret;exact ⟨rfl,z3⟩
end Go.Proofs.YtgiiidminlhbpaaGreatDoor
namespace Go.Proofs.YtgiiidminlhbpaaGreatDoor
open Go.RowKit Go.Sx Go.Dl Go.Lk Go.Rq Go.Au
def Cf.open_ (c:Cf):Cf:={ c with filter:=4294967295 }
theorem ztK {w0:World} {P F:HP} {v:Value} {l:List Ev} [p:z35 P zjV v l F]:ztx w0 P v l:=fun _ hs=>(hs.perm p.eq).rdR
instance (k cy co:Int):zgX zjV [.int .i64 k,.int .u64 cy,.int .u64 co,.int .u32 0,.int .u32 0,.int .u32 0] [⟨k,cy,co,0,0,0⟩]:=⟨rfl⟩
theorem zte {P:Program} {w0 w:World} {P0 F:HP} {α:Type} {sz:Nat} {E:Enc α sz} {t e bytes:Nat} {z:Value} {l l2:List α} {o:Oper} {a:Act} {Q:Exit→Act→World→Prop} {s x:Operand} {ad sa:Option Addr} {m c sn sc:Nat} {ops:Array Oper} {rest:List Oper} (hw:Region.wanted o (yielded ops a.tmps)=true)
  (ho:o.op=.call { callee:=.builtin .append,args:=#[s,x],argTypes:=#[t,t] }) [ET:z63 P t α sz E e bytes z]
  (hv:a.eval s=.slice sa sn sc) (hx:a.eval x=.slice ad m c) [hs:Sat w0 w P0] [hp:z35 P0 E (.slice sa sn sc) l F] [hr:RdC w E (.slice ad m c) l2]
  (h63:sn+m≤1000000000)
  (h:∀ a' cap' L w',Hid (L=l++l2)→L.length≤sn+m→sn+m≤L.length→Sat w0 w' (z7 (.slice a' L.length cap') L*F)→w.heap.size≤w'.heap.size→wpList P ops Q rest (a.put o.dst (.slice a' L.length cap')) w'):wpList P ops Q (o::rest) a w:=by
 simp only [wpList,hw,if_true];exact .inl (z2J ho hv hx h63 h)
theorem zvW {c:Cf} (hf:c.filter=4294967295) (ok:z7T c) {s:Sc} (hs:scE s=0) (ht:∀ v∈s.tape,zG v) (hst:s.steps≤200) :
  (Wd.evs c s.steps.toNat (zQc c s)).length≤200000∧zuY (Wd.evs c s.steps.toNat (zQc c s))=-1∧zuY (Wd.evs c s.steps.toNat (zQc c s)++[⟨24,(Wd.run c s.steps.toNat (zQc c s)).K.cycle,(Wd.run c s.steps.toNat (zQc c s)).K.count,0,0,0⟩])=-1 ∧
   ∀ e∈Wd.evs c s.steps.toNat (zQc c s)++[⟨24,(Wd.run c s.steps.toNat (zQc c s)).K.cycle,(Wd.run c s.steps.toNat (zQc c s)).K.count,0,0,0⟩],zvr e:=by
 have hW:=zrI ok hs ht;obtain ⟨a1,a2⟩:=zvz hf ok hs ht s.steps.toNat;obtain ⟨z1,z2,_⟩:=zqE hs;have h1:=zro s.steps.toNat hW;have h2:=zrt c s.steps.toNat (zQc c s) hW.done;have h3:(zQc c s).done=0:=rfl;have h4:(zQc c s).steps=s.steps:=rfl;rw [h3,h4] at h2;refine ⟨?_,by unfold zuY;rw [a1],by unfold zuY;rw [a2],zvO hf ok hs ht _⟩;have:=h1.1;have:=h2.1;omega
theorem ztk (v0:Value) (c0:Cf) (v1:Value) (s0:Sc) (w0:World) (h0:z8I w0 v0 c0) (k0:z6B c0) (h1:zQa w0 v1 s0) (k1:∀ x∈s0.tape,zG x) (hT:Tab w0) :
  Calls Tryz.prog 3 #[v0,v1] w0 (zp w0 (.bool true) emp):=by
 have hs:=Sat.start w0;have rg:z6B c0.open_:=⟨k0.tk,k0.lk,k0.mask,show (4294967295:Nat)<4294967296 by decide,k0.cyc,k0.cnt⟩;have hLg:=hid (fun (w:World) (h:Sat w0 w any)=>zs9 v0 v1 c0 s0 w (h0.later h) (h1.later h));have hCp:=hid (fun (hp:zez c0) (w:World) (h:Sat w0 w any)=>zcG v0 c0 ⟨Nat.le_trans hp.t (by decide),Nat.le_trans hp.l (by decide),Nat.le_trans hp.s (by decide),Nat.le_trans hp.q (by decide),Nat.le_trans hp.m (by decide),fun t ht=>Nat.le_trans (hp.tc t ht) (by decide),fun t ht=>Nat.le_trans (hp.lc t ht) (by decide)⟩ w (h0.later h));have hRe:=hid (fun (he:wdE c0.open_ s0≠0) (v:Value) (w:World) (h:Sat w0 w any) (hr:z8I w v c0.open_)=>zs3 v v1 c0.open_ s0 rg w hr (h1.later h) he);have hRn:=hid (fun (he:wdE c0.open_ s0=0) (v:Value) (w:World) (h:Sat w0 w any) (hr:z8I w v c0.open_)=>zw9 v v1 c0.open_ s0 rg w (hT.later h) hr (h1.later h) k1 he);have hAc:=hid (fun (he:wdE c0.open_ s0=0) (h200:s0.steps≤200)=>zvW (c:=c0.open_) rfl (z4E rg (zs1 he).1) (zs1 he).2 k1 h200);obtain ⟨ta,la,sa,qa,ma,tc,lc,sc,qc,mc,rfl,_,_,_,_,_⟩:=h0.form;obtain ⟨aa,ac,ta2,tc2,rfl,_,_⟩:=h1;clear h0 hT k1 k0 rg
 go_enter Tryz.func3,Tryz.ntmps3
 go_wp2_with fail;refine (zup w0 _ _ z6).mono ?_;rintro en w1 ⟨rfl,hs1⟩;clear hs;go_wp2_with fail;refine (hLg.out _ z3).mono ?_;rintro en w2 ⟨z,rfl,hp,hz⟩;have hs2:=Sat.past (w0:=w0) z6 hp;have Hz:=hid hz;clear hp hs1 hz
 cases z
 case true =>
  go_wp2_with fail;refine (zup w0 _ _ z6).mono ?_;rintro en w3 ⟨rfl,hs3⟩;clear hs2;go_wp2_with fail;go_ret;exact ⟨rfl,z3⟩
 case false =>
  have Lg:=hid (Hz.out rfl);clear Hz;have hC:=hid (hCp.out Lg.out.1);clear hCp;go_wp2_with fail;refine (hC.out _ z3).mono ?_;rintro en w3 ⟨v3,rfl,hs5⟩;obtain ⟨x,hs6⟩:=(hs5.perm (zz _).symm).ex_out;obtain ⟨⟨e3,hcap1⟩,hs7⟩:=(hs6.perm (zb _ _ _)).pur_out;subst e3;have hs8:=Sat.over (w0:=w0) hs2 hs7;have Hcap:=hid (show zjx x c0.open_ from ⟨hcap1.ct,hcap1.cl,hcap1.cs,hcap1.cq,hcap1.cm,hcap1.tv,hcap1.lv⟩);clear hs5 hs6 hs7 hcap1 hs2;go_wp2_with fail;refine z4C (w0:=w0) ?_;intro w4 hs9;clear hs8;have hrd:z8I w4 (.agg (cfL x c0.open_).toArray) c0.open_:=zmv (w0:=w0) (F:=any) (x:=x) (c:=c0.open_) (z3:Sat w0 w4 (cfH x c0*any)) Hcap.out
  by_cases he:wdE c0.open_ s0=0
  case neg =>
   have hR:=hid (hRe.out he);have q1:(wdE c0.open_ s0 != 0)=true:=by simp [he]
   clear he hRe hRn hAc;generalize wdE c0.open_ s0=e at *;refine (hR.out (.agg (cfL x c0.open_).toArray) w4 z3 hrd).mono ?_;rintro en w5 ⟨rfl,hp⟩;have hs10:=Sat.over (w0:=w0) hs9 hp;clear hp hs9 hrd;go_wp2_with (first | (refine z09 (w0:=w0) (cells:=zsP) (old:=zsP) rfl rfl rfl rfl Go.Sx.own rfl (by kernel_rfl) rfl ?_;intro wS hs5));go_ret;exact ⟨rfl,z3⟩
  case pos =>
   have hR:=hid (hRn.out he);obtain ⟨l1,l2,l3,l4⟩:=hAc.out he Lg.out.2.1;have c1:=hid l2;have c2:=hid l3;have ev:=hid l4;clear he hRe hRn hAc l2 l3 l4;refine (hR.out (.agg (cfL x c0.open_).toArray) w4 z3 hrd).mono ?_;clear hR hrd Hcap;rintro en w5 ⟨v5,rfl,hp⟩;obtain ⟨eV,cl,rfl,hcl,hone,⟨q0,q1⟩,hp2⟩:=zvo (hp.perm (zz _).symm);obtain ⟨ea,ec,rfl⟩:=hp2.slice_form;have hs11:=Sat.over (w0:=w0) hs9 hp2;clear hp hp2 hs9;generalize (Wd.run c0.open_ s0.steps.toNat (zQc c0.open_ s0)).K.count=co at *;generalize (Wd.run c0.open_ s0.steps.toNat (zQc c0.open_ s0)).K.cycle=cy at *;generalize Wd.evs c0.open_ s0.steps.toNat (zQc c0.open_ s0)=L at *;have hCk:=hid (fun (v:Value) (w:World) (F:HP) (hs:Sat w0 w F) (hst:ztx w0 F v L)=>zts v L (by omega) (fun e he=>ev.out e (List.mem_append_left _ he)) w0 w F hs hst);have hCk2:=hid (fun (M:List Ev) (hM:M=L++[⟨24,cy,co,0,0,0⟩]) (v:Value) (w:World) (F:HP) (hs:Sat w0 w F) (hst:ztx w0 F v M)=>(show Calls Tryz.prog 8 #[v] w (zp w0 (.int .i64 (-1)) F) by
    subst hM;have h:=zts v _ (by rw [List.length_append];simp;omega) ev.out w0 w F hs hst;rw [c2.out] at h;exact h))
   rw [c1.out] at hCk;clear c1 c2 ev;go_wp2_with (first | (refine z09 (w0:=w0) (cells:=cl) (old:=zsP) rfl rfl rfl rfl Go.Sx.own (by rw [hcl];rfl) (by rw [hcl];kernel_rfl) hone ?_;intro wS hs5));refine z4C (w0:=w0) ?_;intro w6 hs12;clear hs11
   try clear hs5
   generalize w5.heap.size=eb at *;haveI k0:zC (pts eb 0 cl) eb 0 (.int .u64 co):=zrB q0;haveI k1:zC (pts eb 0 cl) eb 1 (.int .u64 cy):=zrB q1;refine (hCk.out _ _ _ z6 ztK).mono ?_;rintro en w7 ⟨rfl,hs13⟩;clear hs12;go_wp2_with (at_builtin;refine zte (by rfl) rfl rfl rfl (by omega) ?_;intro ap ac3 aL aw ahL ah1 ah2 ahs _);refine (hCk2.out aL ahL.out _ _ _ z6 ztK).mono ?_;rintro en w8 ⟨rfl,hs14⟩;go_wp2_with fail;go_ret;exact ⟨rfl,z3⟩
end Go.Proofs.YtgiiidminlhbpaaGreatDoor
namespace Go.Proofs.YtgiiidminlhbpaaGreatDoor
open Go.ChangeShapes Go.WideShapes Go.ChangeAt Go.RowKit Go.Sx
abbrev z4M : List (String × DataW Unit) := [("math/bits.deBruijn32tab", Rows.laid_math_bits_deBruijn32tab)]
theorem zo8 : Tryz.prog.globalNamed "math/bits.deBruijn32tab" = some 0 := by kernel_rfl
theorem zoc : (Tryz.prog.globals[0]?).map (·.type) = some 205:=by kernel_rfl
theorem zo6:(Rows.laid_math_bits_deBruijn32tab:DataW Unit)=.agg (Lib.deBruijn32tab.map fun k:Nat=>DataW.lit (.int .u8 (k:Int))):=by kernel_rfl
theorem z6k (os:Os) (args:Array Value):laidMetH Tryz.prog z4M ((World.doorLaid Tryz.prog 400 os).forCall (fun _ _=>0) ⟨#[],args,[]⟩).memory :=
 laidMetH_of_parts (laidMet_of_run' 8 (by kernel_rfl) (by kernel_rfl)) (by kernel_rfl)
theorem z3h {W:World} (h:laidMetH Tryz.prog z4M W):Tab W:=by
 rw [MakeChecks.laidMetH_plain _ _ _ (by kernel_rfl)] at h;obtain ⟨ps,⟨g0,t0,cs0,f0,p0,q0,hg0,ht0,hv0,hd0,_,_⟩,_,_⟩:=h;obtain rfl:=Option.some.inj (zo8.symm.trans hg0);obtain rfl:=Option.some.inj (zoc.symm.trans ht0);obtain ⟨xs,m1,rfl,hx1,hlen,hn,hel⟩:=DataW.trod_array Tryz.underlying205 hd0;have c8:Tryz.prog.cellsOf 5=1:=by kernel_rfl
 rw [zo6] at hx1;simp only [Prod.mk.injEq,DataW.agg.injEq] at hx1;intro j hj;have hj32:j<32:=hj;have hxj:j<xs.length:=by omega
 have h0:=hel j hj32;rw [c8,Nat.mul_one,List.getElem?_eq_getElem hxj] at h0;obtain ⟨k,e1,e2,_⟩:=DataW.trod_int Tryz.underlying5 h0;have e3 : (xs.map (·.1))[j]? = (Lib.deBruijn32tab.map fun k : Nat=>(DataW.lit (.int .u8 (k : Int)) : DataW Unit))[j]?:=by rw [hx1.1]
 rw [List.getElem?_map,List.getElem?_map,List.getElem?_eq_getElem hxj,e2,List.getElem?_eq_getElem hj] at e3;simp only [Option.map_some,Option.some.injEq,DataW.lit.injEq,Lit.int.injEq,true_and] at e3;have hcell:=World.var?_cell hg0 hv0 j;have hl:j<cs0.toList.length:=by
  rcases Nat.lt_or_ge j cs0.toList.length with a | a
  ·exact a
  ·rw [List.drop_eq_nil_of_le a] at e1;simp at e1
 rw [List.drop_eq_getElem_cons hl] at e1;have e4:cs0.toList[j]=.int .u8 k:=by simpa using e1
 have hl2:j<cs0.size:=by simpa using hl
 rw [hcell,Array.getElem?_eq_getElem hl2];rw [show cs0[j]=.int .u8 k by simpa using e4,e3];simp [List.getD,hj]
end Go.Proofs.YtgiiidminlhbpaaGreatDoor
