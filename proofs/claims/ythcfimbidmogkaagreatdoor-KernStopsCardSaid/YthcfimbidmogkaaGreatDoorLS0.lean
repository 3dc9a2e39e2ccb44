/-
  Parts of the proof: KernY ConfG KernSb KernNf Great KernAc KernZ Open CfOpen LStops.
-/
import Derived.Test.YthcfimbidmogkaaGreatDoorRows
import Derived.ProofKit
import Derived.OpenShut
import Derived.ShutString
import Derived.ChangeOld
import Derived.Below
import Derived.Deep.Slices
import Derived.Test.YthcfimbidmogkaaGreatDoorKB0
import Derived.Test.YthcfimbidmogkaaGreatDoorKB5
import Derived.Test.YthcfimbidmogkaaGreatDoorKB7
import Derived.Test.YthcfimbidmogkaaGreatDoorKB8
import Derived.Test.YthcfimbidmogkaaGreatDoorKB9
import Derived.Test.YthcfimbidmogkaaGreatDoorKB13
import Derived.Test.YthcfimbidmogkaaGreatDoorKB15
set_option linter.unusedVariables false
set_option linter.unusedSimpArgs false
set_option maxHeartbeats 32000000
set_option maxRecDepth 100000
namespace Go.Proofs.YthcfimbidmogkaaGreatDoor
open Go.RowKit Go.Sx Go.Dl Go.Lk Go.Rq Go.Au
section
variable {c : Cf} {K : Kn}
theorem z1U (t : Nat) (why a : Int) : (K.wake c t why a).stopped = K.stopped:=by unfold Kn.wake;simp [Kn.setT]
theorem z3Q (who : Int) (s : Nat) : (K.post c who s).stopped = K.stopped:=by
 unfold Kn.post;dsimp only
 split
 ·rfl
 ·split
  ·rw [z1U,zc]
  ·rw [zc]
theorem z7N (t : Nat) : (K.timeout c t).stopped = K.stopped:=by
 unfold Kn.timeout;dsimp only
 repeat' split
 ·rfl
 all_goals rw [z1U]
theorem z7C (t : Nat) : (K.release c t).stopped = K.stopped:=by
 unfold Kn.release;dsimp only
 by_cases h1 : (K.T t).st = 0 <;> by_cases h2 : 0 < (tcg c t).per <;> simp only [h1,h2,if_true,if_false,zc,Kn.setT]
theorem zaL (id : Int) : (K.over c id).stopped = K.stopped:=by
 unfold Kn.over;dsimp only
 split
 ·exact z7C _
 split
 ·exact z7N _
 split
 ·rw [zc,z3Q,zc]
 ·rw [z3Q,zc]
theorem z4O : ∀ (l : List Int) (K : Kn),(l.foldl (fun K id=>K.over c id) K).stopped = K.stopped
 | [],_=>rfl
 | id :: l,K=>(z4O l _).trans (zaL id)
theorem z60 (hf : ¬ K.full) (hz : K.stopped = false) (h : Inv c K) : (K.tick c).stopped = false:=by
 rw [z9J hf hz,z4O];exact hz
theorem z4S (bits : Nat) : (K.raise c bits).stopped = K.stopped := by
  unfold Kn.raise
  split
  · rfl
  · have : ∀ n (K : Kn) a b, (K.raiseN c a b n).stopped = K.stopped := fun n => by
      induction n with
      | zero => intros; rfl
      | succ n ih => intro K a b; unfold Kn.raiseN; dsimp only; split
                     · rw [zc, ih]
                     · exact ih K a b
    rw [this]
end
def znM (x : Cx0) (c : Cf) (t : Nat) : Tv:=⟨(tcg c t).lev,(tcg c t).off,(tcg c t).per,(tcg c t).dl,(tcg c t).mem,(x.tv t).ad (tcg c t).code.length,(tcg c t).code.length,(x.tv t).cap⟩
theorem z9q {α : Type} {sz : Nat} [E : Enc α sz] {w0 w : World} {F : HP} {h : Hd} {l : List α} (hs : Sat w0 w (pts h.b h.o (cellsOf l) * F)) (hc : l.length ≤ h.cap ∧ h.cap ≤ maxLen) : RdR w (h.v l.length) l :=
 ⟨h.ad l.length,h.cap,h.b,h.o,rfl,hc.1,hc.2,fun hne=>h.ad_pos (List.length_pos_iff.2 hne),fun j u hj=>hs.cell hj⟩
theorem zcb {w0 w : World} {F : HP} {h : Hd} {l : List Int} (hs : Sat w0 w (pts h.b h.o (l.map (Value.int .i64)) * F)) (hc : l.length ≤ h.cap ∧ h.cap ≤ maxLen) : RdN .i64 w (h.v l.length) l :=
 ⟨h.ad l.length,h.cap,h.b,h.o,rfl,hc.1,hc.2,fun hne=>h.ad_pos (List.length_pos_iff.2 hne),fun j hj=>by
  have:=hs.cell (j:=j) (v:=.int .i64 (l.getD j 0)) (by simp [List.getD,hj]);exact this⟩
theorem zmv {w0 w : World} {x : Cx0} {c : Cf} {F : HP} (hs : Sat w0 w (cfH x c * F)) (k : zjx x c) : z8I w (.agg (cfL x c).toArray) c:=by
 have hT : ∀ t,t < c.ts.length → zn9 (x.tv t) (((List.range c.ts.length).map (znM x c)).getD t tv0) (tcg c t):=fun t ht=>by
  rw [z27 ht];exact ⟨rfl,k.tv t ht⟩
 have hL : ∀ t,t < c.ls.length → zn8 (x.lv t) (((List.range c.ls.length).map (z1H x c)).getD t lv0) (lcg c t):=fun t ht=>by
  rw [z27 ht];exact ⟨rfl,k.lv t ht⟩
 have e1 : _ = ctP x c:=zlE (b:=x.ct.b) (o:=x.ct.o) (by simp) hT;have e2 : _ = clP x c:=zlD (b:=x.cl.b) (o:=x.cl.o) (by simp) hL;unfold cfH cnP at hs;rw [← e1,← e2] at hs;have lT : ((List.range c.ts.length).map (znM x c)).length = c.ts.length:=by simp
 have lL : ((List.range c.ls.length).map (z1H x c)).length = c.ls.length:=by simp
 have r1:=z9q (h:=x.ct) (hs.perm (z2u.eq (Q:=pts x.ct.b x.ct.o (cellsOf ((List.range c.ts.length).map (znM x c)))))) (by rw [lT];exact k.ct);have r2:=z9q (h:=x.cl) (hs.perm (z2u.eq (Q:=pts x.cl.b x.cl.o (cellsOf ((List.range c.ls.length).map (z1H x c)))))) (by rw [lL];exact k.cl);rw [lT] at r1;rw [lL] at r2;refine ⟨⟨_,_,_,_,_,rfl,⟨_,r1,lT,fun t ht=>?_⟩,⟨_,r2,lL,fun t ht=>?_⟩,?_,?_,?_⟩⟩
 ·rw [z27 ht];refine ⟨rfl,rfl,rfl,rfl,rfl,?_⟩;obtain ⟨R,hR⟩:=z8N (f:=fun t=>pts (x.tv t).b (x.tv t).o (cellsOf (tcg c t).code)) ht;rw [hR] at hs;exact z9q (h:=x.tv t) (hs.perm (z2u.eq (Q:=pts (x.tv t).b (x.tv t).o (cellsOf (tcg c t).code)))) (k.tv t ht)
 ·rw [z27 ht];refine ⟨rfl,?_⟩;obtain ⟨R,hR⟩:=z8N (f:=fun t=>pts (x.lv t).b (x.lv t).o (cellsOf (lcg c t).code)) ht;rw [hR] at hs;exact z9q (h:=x.lv t) (hs.perm (z2u.eq (Q:=pts (x.lv t).b (x.lv t).o (cellsOf (lcg c t).code)))) (k.lv t ht)
 ·exact zcb (h:=x.cs) (hs.perm (z2u.eq (Q:=pts x.cs.b x.cs.o (c.sems.map (Value.int .i64))))) k.cs
 ·exact zcb (h:=x.cq) (hs.perm (z2u.eq (Q:=pts x.cq.b x.cq.o (c.queues.map (Value.int .i64))))) k.cq
 ·exact zcb (h:=x.cm) (hs.perm (z2u.eq (Q:=pts x.cm.b x.cm.o (c.timers.map (Value.int .i64))))) k.cm
section
variable (b : Nat) (x : Fx) (c : Cf) (K : Kn) (w0 w : World) (F : HP) (hs : Sat w0 w (knP b x c K * F))
include hs
end
def setAll (w : World) (b o : Nat) : List Value → World
 | []=>w
 | v :: vs=>setAll (w.setCell ⟨b,o,none⟩ v) b (o + 1) vs
theorem Sat.setAll {w0 : World} {b : Nat} : ∀ (vs xs : List Value) {w : World} {o : Nat} {F : HP},vs.length = xs.length → Sat w0 w (pts b o xs * F) → Sat w0 (setAll w b o vs) (pts b o vs * F)
 | [],[],_,_,_,_,hs=>hs
 | v :: vs,x :: xs,w,o,F,hl,hs=>by
  have h1:=hs.set0 v;rw [z2A] at h1;have h2:=Sat.setAll vs xs (F:=pts b o [v] * F) (by simpa using hl) (h1.perm (by ac_rfl));rw [z2A];exact h2.perm (by ac_rfl)
class z6C (P : HP) (b o : Nat) (xs : outParam (List Value)) (F : outParam HP) : Prop where
 eq : P = pts b o xs * F
instance (priority:=2000) z6C.here (b o : Nat) (xs : List Value) (F : HP) : z6C (pts b o xs * F) b o xs F:=⟨rfl⟩
instance (priority:=1000) z6C.right (A G F : HP) (b o : Nat) (xs : List Value) [h : z6C G b o xs F] : z6C (A * G) b o xs (A * F):=⟨by rw [h.eq];ac_rfl⟩
theorem z92 (v : Value) (c : Cf) (rg : z6B c) (w0 : World) (hr : z8I w0 v c) (hok : (z5g c).err ≠ 0) :
  Calls Tryz.prog 13 #[v] w0 (zp w0 (.tuple #[.pointer none,ftV (z5g c)]) emp):=by
 have hs:=Sat.start w0;have hA:=hid (fun (w : World) (h : Sat w0 w any)=>z9W v c rg w (hr.later h));obtain ⟨ta,la,sa,qa,ma,tc,lc,sc,qc,mc,rfl,h1,h2,h3,h4,h5⟩:=hr.form;clear hr h1 h2 h3 h4 h5;have e1 : ((z5g c).err == 0) = false:=by simp [hok]
 have e2 : ((z5g c).err != 0) = true:=by simp [hok]
 go_enter Tryz.func13,Tryz.ntmps13
 go_wp2_with fail;refine (hA.out _ z3).mono ?_;rintro en w1 ⟨rfl,hs1⟩;have hs2:=Sat.past (w0:=w0) z6 hs1;clear hs1 hs;unfold ftV;go_wp2_with fail;refine z9 (w0:=w0) ?_;intro wx hsx;go_still_tail 2,(by kernel_rfl);change wpList _ _ _ _ _ wx.drew;go_wp2_with fail;go_returns;exact ⟨rfl,z3⟩
structure zez (c : Cf) : Prop where
 t : c.ts.length ≤ 70
 l : c.ls.length ≤ 20
 s : c.sems.length ≤ 40
 q : c.queues.length ≤ 40
 m : c.timers.length ≤ 40
 tc : ∀ t,t < c.ts.length → (tcg c t).code.length ≤ 300
 lc : ∀ t,t < c.ls.length → (lcg c t).code.length ≤ 300
def znV (w0 : World) (P : HP) (Q : Prop) (e : Ending) (w' : World) : Prop:=∃ z : Bool,e = .returned (.bool z) ∧ Sat w0 w' P ∧ (z = false → Q)
theorem zik (v : Value) (c : Cf) (w0 : World) (hr : z8I w0 v c) :
  Calls Tryz.prog 35 #[v] w0 (znV w0 emp (zez c)):=by
 have hs:=Sat.start w0;obtain ⟨tv,lv,sv,qv,mv,rfl,⟨T,hT,hTn,hTi⟩,⟨L,hL,hLn,hLi⟩,hS,hQ,hM⟩:=hr.out;clear hr;obtain ⟨sa,scap,_,_,rfl,_⟩:=hS;obtain ⟨qa,qcap,_,_,rfl,_⟩:=hQ;obtain ⟨ma,mcap,_,_,rfl,_⟩:=hM;obtain ⟨ta,tcap,tg,tto,rfl,_,_,hta,htc⟩:=hT;obtain ⟨la,lcap,lg',lo,rfl,_,_,hla,hlc⟩:=hL;rw [hTn,hLn];have Hta:=hid hta;have Htc:=hid htc;have Hla:=hid hla;have Hlc:=hid hlc;have HTn:=hid hTn;have HLn:=hid hLn;have HTi:=hid hTi;have HLi:=hid hLi;clear hta htc hla hlc hTn hLn hTi hLi
 by_cases g1 : 70 < c.ts.length
 ·have d1 : decide (70 < c.ts.length) = true:=decide_eq_true g1;have d2 : decide ((70 : Int) < (c.ts.length : Int)) = true:=by simp;omega
  clear g1
  go_enter Tryz.func35,Tryz.ntmps35
  go_wp2_with fail;go_ret;exact ⟨true,rfl,z3,fun h=>by cases h⟩
 have d1 : decide (70 < c.ts.length) = false:=decide_eq_false g1;have e1 : decide ((70 : Int) < (c.ts.length : Int)) = false:=by simp;omega
 by_cases g2 : 20 < c.ls.length
 ·have d2 : decide (20 < c.ls.length) = true:=decide_eq_true g2;have e2 : decide ((20 : Int) < (c.ls.length : Int)) = true:=by simp;omega
  go_enter Tryz.func35,Tryz.ntmps35
  go_wp2_with fail;go_ret;exact ⟨true,rfl,z3,fun h=>by cases h⟩
 have d2 : decide (20 < c.ls.length) = false:=decide_eq_false g2;have e2 : decide ((20 : Int) < (c.ls.length : Int)) = false:=by simp;omega
 by_cases g3 : 40 < c.sems.length
 ·have d3 : decide (40 < c.sems.length) = true:=decide_eq_true g3;have e3 : decide ((40 : Int) < (c.sems.length : Int)) = true:=by simp;omega
  go_enter Tryz.func35,Tryz.ntmps35
  go_wp2_with fail;go_ret;exact ⟨true,rfl,z3,fun h=>by cases h⟩
 have d3 : decide (40 < c.sems.length) = false:=decide_eq_false g3;have e3 : decide ((40 : Int) < (c.sems.length : Int)) = false:=by simp;omega
 by_cases g4 : 40 < c.queues.length
 ·have d4 : decide (40 < c.queues.length) = true:=decide_eq_true g4;have e4 : decide ((40 : Int) < (c.queues.length : Int)) = true:=by simp;omega
  go_enter Tryz.func35,Tryz.ntmps35
  go_wp2_with fail;go_ret;exact ⟨true,rfl,z3,fun h=>by cases h⟩
 have d4 : decide (40 < c.queues.length) = false:=decide_eq_false g4;have e4 : decide ((40 : Int) < (c.queues.length : Int)) = false:=by simp;omega
 by_cases g5 : 40 < c.timers.length
 ·have d5 : decide (40 < c.timers.length) = true:=decide_eq_true g5;have e5 : decide ((40 : Int) < (c.timers.length : Int)) = true:=by simp;omega
  go_enter Tryz.func35,Tryz.ntmps35
  go_wp2_with fail;go_ret;exact ⟨true,rfl,z3,fun h=>by cases h⟩
 have d5 : decide (40 < c.timers.length) = false:=decide_eq_false g5;have e5 : decide ((40 : Int) < (c.timers.length : Int)) = false:=by simp;omega
 go_enter Tryz.func35,Tryz.ntmps35
 go_wp2_with fail;refine z9 (w0:=w0) ?_;intro ww hsw;clear hs
 go_loopw [3,4] (fun nv i wr=>∃ k n : Nat,k ≤ c.ts.length ∧ n ≤ 300 * k ∧ nv = .int .i64 n ∧ i = .int .i64 k ∧ (∀ j,j < k → (tcg c j).code.length ≤ 300) ∧ Sat w0 wr (pts w0.heap.size 0 [.slice ta c.ts.length tcap,.slice la c.ls.length lcap,.int .i64 c.mutexes,.slice sa c.sems.length scap,.slice qa c.queues.length qcap,.slice ma c.timers.length mcap,.int .i64 c.table,.int .u32 c.mask,.int .u32 c.filter,.int .i64 c.charge,.int .u64 c.cycle,.int .u64 c.count] * any)) (fun _ i _=>c.ts.length - (intOf i).toNat)
 case atStart=>exact ⟨0,0,Nat.zero_le _,Nat.zero_le _,rfl,rfl,fun j hj=>absurd hj (by omega),z3⟩
 case round =>
  obtain ⟨k,n,hk,hn,rfl,rfl,hb,hsr⟩:=hrel;clear hsw;have Hb:=hid hb;clear hb
  by_cases hlt : k < c.ts.length
  ·have f3 : decide (k < c.ts.length) = true:=decide_eq_true hlt;have i3 : (k : Int) < (c.ts.length : Int):=by omega
   have hTl:=HTn.out;obtain rfl:=Hta.out (by intro h;simp [h] at hTl;omega);have hit:=HTi.out k hlt;obtain ⟨u,hu⟩ : ∃ u,u = T.getD k tv0:=⟨_,rfl⟩;have oc : ∀ c' y,c' < 6 → (z8Q.enc u)[c']? = some y → w0.cell? ⟨tg,tto + k * 6 + c',none⟩ = some y:=fun c' y hc6 he=>z2i Htc.out (by omega) hc6 (by show (z8Q.enc (T.getD k tv0))[c']? = some y;rw [← hu];exact he);rw [← hu] at hit;have hcl : u.cn = (tcg c k).code.length:=hit.code.caps.1;haveI o5 : Old w0 tg (tto + k * 6 + 5) (.slice u.ca u.cn u.cc):=⟨oc 5 _ (by decide) rfl⟩;clear oc hu hTl hit
   by_cases hz0 : 300 < u.cn
   ·have f4 : decide (300 < u.cn) = true:=decide_eq_true hz0;have i4 : decide ((300 : Int) < (u.cn : Int)) = true:=by simp;omega
    clear hcl;go_wp2_with fail;go_ret;exact ⟨true,rfl,z3,fun h=>by cases h⟩
   ·have f4 : decide (300 < u.cn) = false:=decide_eq_false hz0;have i4 : decide ((300 : Int) < (u.cn : Int)) = false:=by simp;omega
    have hb2 : Hid (∀ j,j < k + 1 → (tcg c j).code.length ≤ 300):=hid fun j hj=>by
     rcases Nat.lt_or_ge j k with h | h
     ·exact Hb.out j h
     ·obtain rfl : j = k:=by omega
      omega
    clear hcl;go_wp2_with fail;go_roundw
    case rel=>exact ⟨k + 1,n + u.cn,by omega,by omega,by go_num,by go_num,hb2.out,z3⟩
    case measure=>simp [intOf];omega
  ·have hkl : k = c.ts.length:=by omega
   subst hkl;have f3 : decide (c.ts.length < c.ts.length) = false:=by simp
   clear hlt hk;go_wp2_with fail;refine z9 (w0:=w0) ?_;intro w3 hs3;clear hsr
   go_loopw [3,5] (fun nv i wr=>∃ k n : Nat,k ≤ c.ls.length ∧ n ≤ 300 * 70 + 300 * k ∧ nv = .int .i64 n ∧ i = .int .i64 k ∧ (∀ j,j < k → (lcg c j).code.length ≤ 300) ∧ Sat w0 wr (pts w0.heap.size 0 [.slice ta c.ts.length tcap,.slice la c.ls.length lcap,.int .i64 c.mutexes,.slice sa c.sems.length scap,.slice qa c.queues.length qcap,.slice ma c.timers.length mcap,.int .i64 c.table,.int .u32 c.mask,.int .u32 c.filter,.int .i64 c.charge,.int .u64 c.cycle,.int .u64 c.count] * any)) (fun _ i _=>c.ls.length - (intOf i).toNat)
   case atStart=>exact ⟨0,n,Nat.zero_le _,by omega,rfl,rfl,fun j hj=>absurd hj (by omega),z3⟩
   case round =>
    obtain ⟨k,n,hk,hn,rfl,rfl,hb,hsr⟩:=hrel;clear hs3;have Hb2:=hid hb;clear hb
    by_cases hlt : k < c.ls.length
    ·have f3 : decide (k < c.ls.length) = true:=decide_eq_true hlt;have i3 : (k : Int) < (c.ls.length : Int):=by omega
     have hLl:=HLn.out;obtain rfl:=Hla.out (by intro h;simp [h] at hLl;omega);have hit:=HLi.out k hlt;obtain ⟨u,hu⟩ : ∃ u,u = L.getD k lv0:=⟨_,rfl⟩;have oc : ∀ c' y,c' < 2 → (z8P.enc u)[c']? = some y → w0.cell? ⟨lg',lo + k * 2 + c',none⟩ = some y:=fun c' y hc6 he=>z2i Hlc.out (by omega) hc6 (by show (z8P.enc (L.getD k lv0))[c']? = some y;rw [← hu];exact he);rw [← hu] at hit;have hcl : u.cn = (lcg c k).code.length:=hit.code.caps.1;haveI o5 : Old w0 lg' (lo + k * 2 + 1) (.slice u.ca u.cn u.cc):=⟨oc 1 _ (by decide) rfl⟩;clear oc hu hLl hit
     by_cases hz0 : 300 < u.cn
     ·have f4 : decide (300 < u.cn) = true:=decide_eq_true hz0;have i4 : decide ((300 : Int) < (u.cn : Int)) = true:=by simp;omega
      clear hcl;go_wp2_with fail;go_ret;exact ⟨true,rfl,z3,fun h=>by cases h⟩
     ·have f4 : decide (300 < u.cn) = false:=decide_eq_false hz0;have i4 : decide ((300 : Int) < (u.cn : Int)) = false:=by simp;omega
      have hb2 : Hid (∀ j,j < k + 1 → (lcg c j).code.length ≤ 300):=hid fun j hj=>by
       rcases Nat.lt_or_ge j k with h | h
       ·exact Hb2.out j h
       ·obtain rfl : j = k:=by omega
        omega
      clear hcl;go_wp2_with fail;go_roundw
      case rel=>exact ⟨k + 1,n + u.cn,by omega,by omega,by go_num,by go_num,hb2.out,z3⟩
      case measure=>simp [intOf];omega
    ·have hkl : k = c.ls.length:=by omega
     subst hkl;have f3 : decide (c.ls.length < c.ls.length) = false:=by simp
     clear hlt hk;go_wp2_with fail;go_ret;exact ⟨_,rfl,z3,fun _=>⟨by omega,by omega,by omega,by omega,by omega,Hb.out,Hb2.out⟩⟩
theorem z9a (v : Value) (c : Cf) (n : Int) (w0 : World) (hr : z8I w0 v c) :
  Calls Tryz.prog 12 #[v,.int .i64 n] w0 (znV w0 emp (zez c ∧ n ≤ 200)):=by
 have hs:=Sat.start w0;have hA:=hid (fun (w : World) (h : Sat w0 w any)=>zik v c w (hr.later h));obtain ⟨tv,lv,sv,qv,mv,rfl,⟨T,hT,hTn,hTi⟩,⟨L,hL,hLn,hLi⟩,hS,hQ,hM⟩:=hr.out;clear hr;obtain ⟨sa,scap,_,_,rfl,_⟩:=hS;obtain ⟨qa,qcap,_,_,rfl,_⟩:=hQ;obtain ⟨ma,mcap,_,_,rfl,_⟩:=hM;obtain ⟨ta,tcap,tg,tto,rfl,_,_,hta,htc⟩:=hT;obtain ⟨la,lcap,lg',lo,rfl,_,_,hla,hlc⟩:=hL;rw [hTn,hLn] at hA;rw [hTn,hLn];have Hta:=hid hta;have Htc:=hid htc;have Hla:=hid hla;have Hlc:=hid hlc;have HTn:=hid hTn;have HLn:=hid hLn;have HTi:=hid hTi;have HLi:=hid hLi;clear hta htc hla hlc hTn hLn hTi hLi
 go_enter Tryz.func12,Tryz.ntmps12
 go_wp2_with fail;refine (hA.out _ z3).mono ?_;rintro en w1 ⟨z,rfl,hs1,hz⟩;have hs2:=Sat.past (w0:=w0) z6 hs1;have Hz:=hid hz;clear hs1 hs hz hA
 cases z
 case true =>
  go_wp2_with fail;go_ret;exact ⟨true,rfl,z3,fun h=>by cases h⟩
 case false =>
  have hp:=Hz.out rfl;have g1:=hp.t;have g2:=hp.l;have Hp:=hid hp;clear hp Hz;go_wp2_with fail;refine z9 (w0:=w0) ?_;intro ww hsw;clear hs2
  go_loopw [5,15] (fun nv i wr=>∃ k m : Nat,k ≤ c.ts.length ∧ m ≤ 1000 * k ∧ nv = .int .i64 m ∧ i = .int .i64 k ∧ Sat w0 wr (pts w0.heap.size 0 [.slice ta c.ts.length tcap,.slice la c.ls.length lcap,.int .i64 c.mutexes,.slice sa c.sems.length scap,.slice qa c.queues.length qcap,.slice ma c.timers.length mcap,.int .i64 c.table,.int .u32 c.mask,.int .u32 c.filter,.int .i64 c.charge,.int .u64 c.cycle,.int .u64 c.count] * any)) (fun _ i _=>c.ts.length - (intOf i).toNat)
  case atStart=>exact ⟨0,0,Nat.zero_le _,Nat.zero_le _,rfl,rfl,z3⟩
  case round =>
   obtain ⟨k,m,hk,hm,rfl,rfl,hsr⟩:=hrel;clear hsw
   by_cases hlt : k < c.ts.length
   ·have f3 : decide (k < c.ts.length) = true:=decide_eq_true hlt;have i3 : (k : Int) < (c.ts.length : Int):=by omega
    have hTl:=HTn.out;obtain rfl:=Hta.out (by intro h;simp [h] at hTl;omega);obtain ⟨u,hu⟩ : ∃ u,u = T.getD k tv0:=⟨_,rfl⟩;have oc : ∀ c' y,c' < 6 → (z8Q.enc u)[c']? = some y → w0.cell? ⟨tg,tto + k * 6 + c',none⟩ = some y:=fun c' y hc6 he=>z2i Htc.out (by omega) hc6 (by show (z8Q.enc (T.getD k tv0))[c']? = some y;rw [← hu];exact he);haveI o0 : Old w0 tg (tto + k * 6) (.int .i64 u.lev):=⟨oc 0 _ (by decide) rfl⟩;haveI o1 : Old w0 tg (tto + k * 6 + 1) (.int .i64 u.off):=⟨oc 1 _ (by decide) rfl⟩;haveI o2 : Old w0 tg (tto + k * 6 + 2) (.int .i64 u.per):=⟨oc 2 _ (by decide) rfl⟩;haveI o3 : Old w0 tg (tto + k * 6 + 3) (.int .i64 u.dl):=⟨oc 3 _ (by decide) rfl⟩;haveI o4 : Old w0 tg (tto + k * 6 + 4) (.int .i64 u.mem):=⟨oc 4 _ (by decide) rfl⟩;haveI o5 : Old w0 tg (tto + k * 6 + 5) (.slice u.ca u.cn u.cc):=⟨oc 5 _ (by decide) rfl⟩;clear oc hu hTl;have hq : ∀ x : Int,0 ≤ (if 1000 < (if x < 0 then 0 else x) then 1000 else if x < 0 then 0 else x) ∧ (if 1000 < (if x < 0 then 0 else x) then 1000 else if x < 0 then 0 else x) ≤ 1000:=fun x=>by split <;> split <;> omega
    have Hq:=hid (hq u.mem);clear hq;go_wp2_with fail;have Hq:=Hq.out;generalize (if 1000 < (if u.mem < 0 then 0 else u.mem) then (1000 : Int) else if u.mem < 0 then 0 else u.mem) = q at *;obtain ⟨q,rfl⟩:=Int.eq_ofNat_of_zero_le Hq.1;refine ⟨⟨k + 1,m + q,by omega,by omega,by go_num,by go_num,z3⟩,?_⟩;simp [intOf];omega
   ·have hkl : k = c.ts.length:=by omega
    subst hkl;have f3 : decide (c.ts.length < c.ts.length) = false:=by simp
    clear hlt hk;go_wp2_with fail;refine z9 (w0:=w0) ?_;intro w3 hs3;clear hsr
    go_loopw [5,29] (fun nv i wr=>∃ k m : Nat,k ≤ c.ls.length ∧ m ≤ 70000 + 1000 * k ∧ nv = .int .i64 m ∧ i = .int .i64 k ∧ Sat w0 wr (pts w0.heap.size 0 [.slice ta c.ts.length tcap,.slice la c.ls.length lcap,.int .i64 c.mutexes,.slice sa c.sems.length scap,.slice qa c.queues.length qcap,.slice ma c.timers.length mcap,.int .i64 c.table,.int .u32 c.mask,.int .u32 c.filter,.int .i64 c.charge,.int .u64 c.cycle,.int .u64 c.count] * any)) (fun _ i _=>c.ls.length - (intOf i).toNat)
    case atStart=>exact ⟨0,m,Nat.zero_le _,by omega,rfl,rfl,z3⟩
    case round =>
     obtain ⟨k,m,hk,hm,rfl,rfl,hsr⟩:=hrel;clear hs3
     by_cases hlt : k < c.ls.length
     ·have f3 : decide (k < c.ls.length) = true:=decide_eq_true hlt;have i3 : (k : Int) < (c.ls.length : Int):=by omega
      have hLl:=HLn.out;obtain rfl:=Hla.out (by intro h;simp [h] at hLl;omega);obtain ⟨u,hu⟩ : ∃ u,u = L.getD k lv0:=⟨_,rfl⟩;have oc : ∀ c' y,c' < 2 → (z8P.enc u)[c']? = some y → w0.cell? ⟨lg',lo + k * 2 + c',none⟩ = some y:=fun c' y hc6 he=>z2i Hlc.out (by omega) hc6 (by show (z8P.enc (L.getD k lv0))[c']? = some y;rw [← hu];exact he);haveI o0 : Old w0 lg' (lo + k * 2) (.int .i64 u.mem):=⟨oc 0 _ (by decide) rfl⟩;haveI o1 : Old w0 lg' (lo + k * 2 + 1) (.slice u.ca u.cn u.cc):=⟨oc 1 _ (by decide) rfl⟩;clear oc hu hLl;have hq : ∀ x : Int,0 ≤ (if 1000 < (if x < 0 then 0 else x) then 1000 else if x < 0 then 0 else x) ∧ (if 1000 < (if x < 0 then 0 else x) then 1000 else if x < 0 then 0 else x) ≤ 1000:=fun x=>by split <;> split <;> omega
      have Hq:=hid (hq u.mem);clear hq;go_wp2_with fail;have Hq:=Hq.out;generalize (if 1000 < (if u.mem < 0 then 0 else u.mem) then (1000 : Int) else if u.mem < 0 then 0 else u.mem) = q at *;obtain ⟨q,rfl⟩:=Int.eq_ofNat_of_zero_le Hq.1;refine ⟨⟨k + 1,m + q,by omega,by omega,by go_num,by go_num,z3⟩,?_⟩;simp [intOf];omega
     ·have hkl : k = c.ls.length:=by omega
      subst hkl;have f3 : decide (c.ls.length < c.ls.length) = false:=by simp
      clear hlt hk
      by_cases hn : 200 < n
      ·have f4 : decide (200 < n) = true:=decide_eq_true hn;go_wp2_with fail;go_ret;exact ⟨true,rfl,z3,fun h=>by cases h⟩
      ·have f4 : decide (200 < n) = false:=decide_eq_false hn;go_wp2_with fail;go_ret
       first | exact ⟨_,rfl,z3,fun _=>Hp.out⟩ | exact ⟨_,rfl,z3,fun _=>⟨Hp.out,by omega⟩⟩
section
variable (b : Nat) (x : Fx) (c : Cf) (K : Kn) (w0 w : World) (F : HP) (hs : Sat w0 w (knP b x c K * F))
include hs
theorem zbN : Calls Tryz.prog 25 #[.pointer (some ⟨b,0,none⟩)] w (zp w0 (.tuple #[.int .u64 K.cycle,.int .u64 K.count]) (knP b x c K * F)):=by
 go_enter Tryz.func25,Tryz.ntmps25
 go_wp2_with fail;go_quiet (fail);go_wp2_with fail;go_returns;exact ⟨rfl,z3⟩
theorem z3G : Calls Tryz.prog 24 #[.pointer (some ⟨b,0,none⟩)] w (zp w0 (.bool K.stopped) (knP b x c K * F)):=by
 go_enter Tryz.func24,Tryz.ntmps24
 go_wp2_with fail;go_ret;exact ⟨rfl,z3⟩
end
section
variable (w0 w : World) (P : HP) (hs : Sat w0 w P)
include hs
end
section
variable {c : Cf} {K : Kn} {value : Int}
end
section
variable {c : Cf} {K : Kn}
theorem z1S (who : Nat) (n v : Int) : (K.put who n v).stopped = K.stopped:=by unfold Kn.put;split <;> rfl
theorem z0u (who : Nat) (i : Ins) (e : Int) : (K.refuse c who i e).stopped = K.stopped:=by unfold Kn.refuse;rw [z1S,zc]
theorem z6X (t : Nat) (status on : Int) (i : Ins) : (K.hold c t status on i).stopped = K.stopped:=by
 unfold Kn.hold;dsimp only;rw [zc]
 split <;> rfl
theorem z4V : ∀ n,(K.relev c n).stopped = K.stopped
 | 0=>rfl
 | n + 1=>by
  unfold Kn.relev;dsimp only
  split
  ·exact z4V n
  ·show (Kn.tell _ _ _ _ _ _).stopped = _;rw [zc];exact z4V n
theorem zae (t : Nat) (m next : Int) : (K.handed c t m next).stopped = K.stopped:=by
 unfold Kn.handed;dsimp only
 split
 ·rw [zc]
 ·rw [zc,z1U,zc]
theorem zk4 (t : Nat) (m : Int) : (K.give c t m).stopped = K.stopped:=by unfold Kn.give;rw [zae]
theorem zcO (t : Nat) : ∀ (l : List Int) (K : Kn),(l.foldl (fun K m=>K.give c t m) K).stopped = K.stopped
 | [],_=>rfl
 | m :: l,K=>(zcO t l _).trans (zk4 t m)
theorem zeX (t : Nat) (status : Int) : (K.gone c t status).stopped = K.stopped:=by
 unfold Kn.gone;dsimp only;unfold Kn.relevel;rw [z4V,zcO];rfl
theorem zl6 (who : Nat) (i : Ins) : (K.send c who i).stopped = K.stopped:=by
 unfold Kn.send;dsimp only
 split
 ·split
  ·exact z0u _ _ _
  ·split
   ·exact z6X _ _ _ _
   ·exact z0u _ _ _
 ·split
  ·rw [zc,z1S]
  ·rw [z1U,zc,z1S,zc,z1S]
theorem zkY (who : Nat) (i : Ins) : (K.recv c who i).stopped = K.stopped:=by
 unfold Kn.recv;dsimp only
 split
 ·split
  ·exact z0u _ _ _
  ·split
   ·exact z6X _ _ _ _
   ·exact z0u _ _ _
 ·split
  ·rw [zc,z1S,z1S]
  ·rw [z1U,zc,zc,z1S,z1S]
theorem zkB (t : Nat) (i : Ins) : (K.lock c t i).stopped = K.stopped:=by
 unfold Kn.lock;dsimp only
 split
 ·exact z0u _ _ _
 split
 ·rw [zc,z1S]
 ·unfold Kn.relevel;rw [z4V,z6X]
theorem zgN (t : Nat) (i : Ins) : (K.unlock c t i).stopped = K.stopped:=by
 unfold Kn.unlock;dsimp only
 split
 ·exact z0u _ _ _
 ·unfold Kn.relevel;rw [z4V,zae,z1S]
theorem zh4 (t : Nat) (i : Ins) : (K.await c t i).stopped = K.stopped:=by
 unfold Kn.await;dsimp only
 split
 ·exact z0u _ _ _
 split
 ·rw [zc,z1S]
 split
 ·exact z0u _ _ _
 split
 ·exact z6X _ _ _ _
 ·exact z0u _ _ _
theorem ziC (t : Nat) (i : Ins) : (K.sleep c t i).stopped = K.stopped:=by
 unfold Kn.sleep;dsimp only
 split
 ·exact z1S _ _ _
 split
 ·exact z0u _ _ _
 ·rw [z6X]
theorem zkK (t : Nat) : (K.next c t).stopped = K.stopped:=by
 unfold Kn.next;dsimp only
 split
 ·rw [zc];exact zc _ _ _ _
 ·exact zc _ _ _ _
theorem ziM (who : Nat) (i : Ins) : (K.timer c who i).stopped = K.stopped:=by
 unfold Kn.timer;dsimp only
 split
 ·exact z0u _ _ _
 ·rw [zc,z1S];split <;> rfl
theorem zb7 (who : Nat) (i : Ins) (value : Int) : (K.shared c who i value).stopped = K.stopped:=by
 unfold Kn.shared
 split
 ·rw [zc,z1S]
 split
 ·rw [zc]
 split
 ·rfl
 split
 ·exact z1S _ _ _
 split
 ·exact z1S _ _ _
 split
 ·split
  ·exact z0u _ _ _
  split
  ·exact z0u _ _ _
  ·rw [z1S,z3Q]
 split
 ·split
  ·exact z0u _ _ _
  split
  ·exact zl6 _ _
  ·exact zkY _ _
 split
 ·exact ziM _ _
 ·rfl
theorem zb5 (t : Nat) (i : Ins) (value : Int) : (K.serveTask c t i value).stopped = K.stopped:=by
 unfold Kn.serveTask
 split
 ·exact zkB _ _
 split
 ·exact zgN _ _
 split
 ·exact zh4 _ _
 split
 ·exact ziC _ _
 split
 ·rfl
 split
 ·exact zkK _
 ·exact zb7 _ _ _
theorem z6w (who : Nat) (x : Cx) : (K.putCx who x).stopped = K.stopped:=by unfold Kn.putCx;split <;> rfl
theorem znh (t : Nat) (value : Int) : (K.go c t value).stopped = K.stopped:=by
 unfold Kn.go;dsimp only
 split
 ·split
  ·rw [z6w];rfl
  ·rw [zeX,zc,z6w];rfl
 ·split
  ·rw [zeX,zc];rfl
  ·rw [zb5];rfl
theorem zbt (value : Int) : (K.dispatch c value).stopped = K.stopped:=by
 unfold Kn.dispatch;have key : ∀ t : Int,(if t = K.run then K else { (K.tell c 5 t K.run 0).cost 10 with run:=t } : Kn).stopped = K.stopped:=fun t=>by
  split
  ·rfl
  ·exact zc _ _ _ _
 cases z0h K.R with
 | none=>exact key 255
 | some t =>
  dsimp only;rw [znh];exact key t
theorem ziB (n : Nat) (value : Int) : (K.serve c n value).stopped = K.stopped:=by
 unfold Kn.serve;dsimp only
 split
 ·split
  ·rw [z6w];rfl
  ·show (Kn.tell _ _ _ _ _ _).stopped = _;rw [zc];show (Kn.tell _ _ _ _ _ _).stopped = _;rw [zc,z6w];rfl
 ·split
  ·show (Kn.tell _ _ _ _ _ _).stopped = _;rw [zc];rfl
  ·rw [zb7];rfl
theorem zly (value : Int) : (K.act c value).stopped = K.stopped:=by
 unfold Kn.act
 split
 ·rfl
 split
 ·exact ziB _ _
 split
 ·show (Kn.tell _ _ _ _ _ _).stopped = _;rw [zc]
 ·exact zbt _
theorem zaR (h : K.stopped = true) {bits : Nat} : K.raise c bits = K:=by unfold Kn.raise;rw [if_pos h]
theorem zeB (h : K.stopped = true) {value : Int} : K.act c value = K:=by unfold Kn.act;rw [if_pos h]
theorem z3U (h : K.full ∨ K.stopped = true) (bits : Nat) (value : Int) : K.step c bits value = { K with stopped:=true,told:=[] }:=by
 unfold Kn.step;rw [z2Y h];rw [zaR (show ({ K with stopped:=true } : Kn).take.stopped = true from rfl),zeB (show ({ K with stopped:=true } : Kn).take.take.stopped = true from rfl)];rfl
theorem zbb (h : Inv c K) (hf : ¬ K.full) (hs : K.stopped = false) (bits : Nat) (value : Int) : (K.step c bits value).stopped = false:=by
 show (((((K.tick c).take.raise c bits).take).act c value)).stopped = false;rw [zly];show ((K.tick c).take.raise c bits).stopped = false;rw [z4S];exact z60 hf hs h
end
end Go.Proofs.YthcfimbidmogkaaGreatDoor
namespace Go.Proofs.YthcfimbidmogkaaGreatDoor
open Go.RowKit Go.Sx Go.ChangeShapes Go.WideShapes Go.ChangeAt
open Go.ChangeMaps (open_string shut_string)
theorem z7f : laidOutB Tryz.prog = true:=by kernel_rfl
theorem z6F {w : World} {a : Addr} {u : Value} (h : w.cell? (a.add 0) = some u) : ∃ b off,a = ⟨b,off,none⟩:=by
 have h : w.cell? a = some u:=by simpa [Addr.add] using h
 obtain ⟨b,off,s⟩:=a
 cases s with
 | none=>exact ⟨b,off,rfl⟩
 | some s =>
  unfold World.cell? at h
  split at h
  ·simp at h
  ·cases h
theorem z7t {κ : IntKind} {w : World} {a : Addr} {len cap : Nat} {zs : List Int} (hl : len ≤ cap) (hm : cap ≤ maxLen) (hz : zs.length = cap) (hc : ∀ i,i < zs.length → w.cell? (a.add i) = some (.int κ (zs.getD i 0))) :
  RdN κ w (.slice (some a) len cap) (zs.take len):=by
 have hlen : (zs.take len).length = len:=by simp;omega
 by_cases h0 : len = 0
 ·subst h0;exact ⟨some a,cap,0,0,by simp,by simp,hm,fun h=>absurd (by simp) h,fun j hj=>absurd hj (by simp)⟩
 ·obtain ⟨b,off,rfl⟩:=z6F (hc 0 (by omega));refine ⟨_,cap,b,off,by rw [hlen],by omega,hm,fun _=>rfl,fun j hj=>?_⟩;have:=hc j (by omega);rw [Addr.add_lit] at this;rw [this]
  congr 2
  rw [hlen] at hj;simp [List.getD,hj]
section
variable {H : Type} {enc : TypeId × Value → H} {P : Program} {W : World} {base : Nat}
theorem z2p {t : TypeId} {v : Value} {d : DataW H} {p : List MemPlace} (h : DataW.Trod enc P W 0 (fun _=>true) true t v d p) : ∀ x ∈ p,x.block < W.heap.size:=by
 obtain ⟨m,hm⟩:=h;exact DataW.trod_lt m _ _ _ hm
end
end Go.Proofs.YthcfimbidmogkaaGreatDoor
namespace Go.Proofs.YthcfimbidmogkaaGreatDoor
open Go.RowKit Go.Sx Go.Dl Go.Lk Go.Rq Go.Au Go.ChangeShapes Go.WideShapes Go.ChangeAt
set_option linter.constructorNameAsVariable false
theorem ziS {n : Int} (h : (Lit.int .u64 n).wf = true) : 0 ≤ n ∧ n < 18446744073709551616:=by
 have h1 : (decide ((0 : Int) ≤ n) && decide (n ≤ 18446744073709551615)) = true:=h;simp only [Bool.and_eq_true,decide_eq_true_eq] at h1;omega
section
variable {H : Type} {enc : TypeId × Value → H} {P : Program} {W : World}
theorem z3X {t : TypeId} {fs : Array Field} {fuel : Nat} {cs : List Value} {x : DataW H × List MemPlace} (ht : P.underlying t = some (.struct fs)) (h : DataW.trod enc P W 0 (fun _=>true) true fuel t cs = some x) :
  cs.length = P.cellsOf t ∧ ∀ (i : Nat) (f : Field),fs[i]? = some f → ∃ n y,DataW.trod enc P W 0 (fun _=>true) true n f.type ((cs.drop f.offset).take (P.cellsOf f.type)) = some y:=by
 obtain ⟨xs,n,_,_,hl,hx,hf⟩:=DataW.trod_struct ht h;refine ⟨hl,fun i f e=>⟨n,xs[i]'(by have:=(Array.getElem?_eq_some_iff.1 e).1;omega),?_⟩⟩;rw [hf i f e,List.getElem?_eq_getElem]
theorem znK {cs : List Value} {o : Nat} (h : o < cs.length) : (cs.drop o).take 1 = [cs[o]]:=by
 rw [List.drop_eq_getElem_cons h];rfl
theorem z3A {t : TypeId} {fs : Array Field} {fuel : Nat} {cs : List Value} {x : DataW H × List MemPlace} (ht : P.underlying t = some (.struct fs)) (h : DataW.trod enc P W 0 (fun _=>true) true fuel t cs = some x)
  {T : TypeId} {i o : Nat} (ho : o < P.cellsOf t) (hg : ∃ g : Field,fs[i]? = some g ∧ g.offset = o ∧ g.type = T ∧ P.cellsOf T = 1) : ∃ v n y,cs[o]? = some v ∧ DataW.trod enc P W 0 (fun _=>true) true n T [v] = some y:=by
 obtain ⟨hl,hf⟩:=z3X ht h;obtain ⟨g,h1,rfl,rfl,h4⟩:=hg;obtain ⟨n,y,h5⟩:=hf i g h1;have hlt : g.offset < cs.length:=by omega
 rw [h4,znK hlt] at h5;exact ⟨_,n,y,List.getElem?_eq_getElem hlt,h5⟩
theorem z0C {t : TypeId} {fs : Array Field} {fuel : Nat} {cs : List Value} {x : DataW H × List MemPlace} (ht : P.underlying t = some (.struct fs)) (h : DataW.trod enc P W 0 (fun _=>true) true fuel t cs = some x)
  {T : TypeId} {κ : IntKind} {i o : Nat} (ho : o < P.cellsOf t) (hT : P.underlying T = some (.int κ)) (hg : ∃ g : Field,fs[i]? = some g ∧ g.offset = o ∧ g.type = T ∧ P.cellsOf T = 1) : ∃ m : Int,cs[o]? = some (.int κ m) ∧ (Lit.int κ m).wf = true:=by
 obtain ⟨v,n,y,h1,h2⟩:=z3A ht h ho hg;obtain ⟨m,e,_,hw⟩:=DataW.trod_int hT h2;simp only [List.cons.injEq,and_true] at e;exact ⟨m,by rw [h1,e],hw⟩
theorem z7Q {t e : TypeId} {κ : IntKind} {n : Nat} {cs : List Value} {x : DataW H × List MemPlace} (ht : P.underlying t = some (.slice e)) (he : P.underlying e = some (.int κ)) (hc : P.cellsOf e = 1)
  (h : DataW.trod enc P W 0 (fun _=>true) true n t cs = some x) : ∃ v l,cs = [v] ∧ RdN κ W v l ∧ ∀ n ∈ l,(Lit.int κ n).wf = true:=by
 rcases open_ints ht he hc h with ⟨hcs,_⟩ | ⟨x,l,c,zs,hcs,_,hl,hm,hz,_,hcell,hwz⟩
 ·exact ⟨_,[],hcs,⟨none,0,0,0,rfl,Nat.le_refl _,Nat.zero_le _,fun h=>absurd rfl h,fun j hj=>absurd hj (Nat.not_lt_zero _)⟩,fun n hn=>(by cases hn)⟩
 ·exact ⟨_,_,hcs,z7t hl hm (by simpa using hz) hcell,fun n hn=>hwz n (List.mem_of_mem_take hn)⟩
theorem z7R {α : Type} {sz : Nat} [E : Enc α sz] {t e : TypeId} {fuel : Nat} {cs : List Value} {x : DataW H × List MemPlace} (ht : P.underlying t = some (.slice e)) (ce : P.cellsOf e = sz) {G : α → Prop}
  (he : ∀ n cs x,DataW.trod enc P W 0 (fun _=>true) true n e cs = some x → ∃ a : α,cs = E.enc a ∧ G a)
  (h : DataW.trod enc P W 0 (fun _=>true) true fuel t cs = some x) : ∃ v l,cs = [v] ∧ RdR W v l ∧ ∀ a ∈ l,G a:=by
 rcases Go.Deep.open_slice ht h with ⟨hcs,_⟩ | ⟨a,len,cap,m,n,D,Pl,hcs,_,hl,hm,hmm,_,hx⟩
 ·exact ⟨_,[],hcs,z5D W,fun a h=>by cases h⟩
 ·simp at hmm;subst hmm;have each : ∀ i,i < m → ∃ y : α,G y ∧ ∀ c u,(E.enc y)[c]? = some u → W.cell? (a.add (i * sz + c)) = some u:=fun i hi=>by
   obtain ⟨cs',h1,h2⟩:=hx i hi;obtain ⟨_,hlen,hcell⟩:=World.cells?_some h1;obtain ⟨y,rfl,hG⟩:=he _ _ _ h2;refine ⟨y,hG,fun c u hu=>?_⟩;have hc:=hcell c (by rw [ce,← E.len y];exact (List.getElem?_eq_some_iff.1 hu).1);rw [Go.Deep.add_add,ce] at hc;rw [hc];exact hu
  haveI : Inhabited α:=⟨E.dft⟩;obtain ⟨f,hf⟩:=Go.Deep.choose_lt each;have hsz:=E.pos;refine ⟨_,(List.range len).map f,hcs,?_,fun y hy=>?_⟩
  ·by_cases h0 : 0 < len
   ·have hpos : 0 < (E.enc (f 0)).length:=by rw [E.len];exact hsz
    obtain ⟨b,off,rfl⟩:=z6F (by simpa using (hf 0 (by omega)).2 0 _ (List.getElem?_eq_getElem hpos));refine ⟨_,m,b,off,by simp,by simpa using hl,hm,fun _=>rfl,fun j u hj=>?_⟩;have hjl:=(List.getElem?_eq_some_iff.1 hj).1;rw [zJ,List.length_map,List.length_range] at hjl;have e1 : j = j / sz * sz + j % sz:=by rw [Nat.mul_comm];exact (Nat.div_add_mod j sz).symm
    have hk : j / sz < len:=(Nat.div_lt_iff_lt_mul hsz).2 hjl;have hc : j % sz < sz:=Nat.mod_lt _ hsz;rw [e1] at hj;rw [z0Y (by simpa using hk) hc] at hj;have hg : ((List.range len).map f).getD (j / sz) E.dft = f (j / sz):=by simp [List.getD,hk]
    rw [hg] at hj;have:=(hf (j / sz) (by omega)).2 _ u hj;rw [← e1,Addr.add_lit] at this;exact this
   ·have : len = 0:=by omega
    subst this;exact ⟨some a,m,0,0,rfl,by simp,hm,fun h=>absurd (by simp) h,fun j u hj=>by simp [cellsOf] at hj⟩
  ·rw [List.mem_map] at hy;obtain ⟨i,hi,rfl⟩:=hy;exact (hf i (by have:=List.mem_range.1 hi;omega)).1
end
section
variable {H : Type} {enc : TypeId × Value → H} {W : World}
theorem cs6 {cs : List Value} {a b c d e f : Value} (hl : cs.length = 6) (h0 : cs[0]? = some a) (h1 : cs[1]? = some b) (h2 : cs[2]? = some c) (h3 : cs[3]? = some d) (h4 : cs[4]? = some e) (h5 : cs[5]? = some f) : cs = [a,b,c,d,e,f]:=by
 match cs,hl with
 | [_,_,_,_,_,_],_=>simp_all
theorem cs2 {cs : List Value} {a b : Value} (hl : cs.length = 2) (h0 : cs[0]? = some a) (h1 : cs[1]? = some b) : cs = [a,b]:=by
 match cs,hl with
 | [_,_],_=>simp_all
theorem zo5 {cs : List Value} {a b c d e f g h i j k l : Value} (hl : cs.length = 12) (h0 : cs[0]? = some a) (h1 : cs[1]? = some b) (h2 : cs[2]? = some c) (h3 : cs[3]? = some d) (h4 : cs[4]? = some e) (h5 : cs[5]? = some f)
  (h6 : cs[6]? = some g) (h7 : cs[7]? = some h) (h8 : cs[8]? = some i) (h9 : cs[9]? = some j) (h10 : cs[10]? = some k) (h11 : cs[11]? = some l) : cs = [a,b,c,d,e,f,g,h,i,j,k,l]:=by
 match cs,hl with
 | [_,_,_,_,_,_,_,_,_,_,_,_],_=>simp_all
abbrev Trd (enc : TypeId × Value → H) (W : World) (n : Nat) (t : TypeId) (cs : List Value) (x : DataW H × List MemPlace) : Prop:=DataW.trod enc Tryz.prog W 0 (fun _=>true) true n t cs = some x
theorem ziQ (n : Nat) (cs : List Value) (x : DataW H × List MemPlace) (h : Trd enc W n 68 cs x) : ∃ i : Ins,cs = za3.enc i ∧ zG i.k:=by
 have hu:=Tryz.underlying68;have hs : Tryz.prog.cellsOf 68 = 6:=by kernel_rfl
 have hi : Tryz.prog.underlying 3 = some (.int .i64):=Tryz.underlying3;have hk : Tryz.prog.underlying 25 = some (.int .u32):=Tryz.underlying25;have ci : Tryz.prog.cellsOf 3 = 1:=by kernel_rfl
 have ck : Tryz.prog.cellsOf 25 = 1:=by kernel_rfl
 obtain ⟨m0,a0,_⟩:=z0C hu h (i:=0) (o:=0) (by rw [hs];decide) hi ⟨_,rfl,rfl,rfl,ci⟩;obtain ⟨m1,a1,_⟩:=z0C hu h (i:=1) (o:=1) (by rw [hs];decide) hi ⟨_,rfl,rfl,rfl,ci⟩;obtain ⟨m2,a2,_⟩:=z0C hu h (i:=2) (o:=2) (by rw [hs];decide) hi ⟨_,rfl,rfl,rfl,ci⟩;obtain ⟨m3,a3,_⟩:=z0C hu h (i:=3) (o:=3) (by rw [hs];decide) hi ⟨_,rfl,rfl,rfl,ci⟩;obtain ⟨m4,a4,_⟩:=z0C hu h (i:=4) (o:=4) (by rw [hs];decide) hi ⟨_,rfl,rfl,rfl,ci⟩;obtain ⟨m5,a5,w5⟩:=z0C hu h (i:=5) (o:=5) (by rw [hs];decide) hk ⟨_,rfl,rfl,rfl,ck⟩;exact ⟨⟨m0,m1,m2,m3,m4,m5⟩,cs6 ((z3X hu h).1.trans hs) a0 a1 a2 a3 a4 a5,zbk w5⟩
theorem zbh {n : Nat} {v : Value} {x : DataW H × List MemPlace} (h : Trd enc W n 64 [v] x) : ∃ l : List Ins,RdR W v l ∧ ∀ i ∈ l,zG i.k:=by
 obtain ⟨v',l,e,hr,hG⟩:=z7R (E:=za3) Tryz.underlying64 (by kernel_rfl) ziQ h;simp only [List.cons.injEq,and_true] at e;subst e;exact ⟨l,hr,hG⟩
theorem zdj {α : Type} {sz : Nat} [E : Enc α sz] {w : World} {v : Value} {l : List α} (h : RdR w v l) : ∃ a n c,v = .slice a n c:=by
 obtain ⟨a,cap,b,off,e,_⟩:=h;exact ⟨_,_,_,e⟩
theorem zgK (n : Nat) (cs : List Value) (x : DataW H × List MemPlace) (h : Trd enc W n 66 cs x) : ∃ t : Tv,cs = z8Q.enc t ∧ ∃ l : List Ins,RdR W t.cv l ∧ ∀ i ∈ l,zG i.k:=by
 have hu:=Tryz.underlying66;have hs : Tryz.prog.cellsOf 66 = 6:=by kernel_rfl
 have hi : Tryz.prog.underlying 3 = some (.int .i64):=Tryz.underlying3;have ci : Tryz.prog.cellsOf 3 = 1:=by kernel_rfl
 have ck : Tryz.prog.cellsOf 64 = 1:=by kernel_rfl
 obtain ⟨m0,a0,_⟩:=z0C hu h (i:=0) (o:=0) (by rw [hs];decide) hi ⟨_,rfl,rfl,rfl,ci⟩;obtain ⟨m1,a1,_⟩:=z0C hu h (i:=1) (o:=1) (by rw [hs];decide) hi ⟨_,rfl,rfl,rfl,ci⟩;obtain ⟨m2,a2,_⟩:=z0C hu h (i:=2) (o:=2) (by rw [hs];decide) hi ⟨_,rfl,rfl,rfl,ci⟩;obtain ⟨m3,a3,_⟩:=z0C hu h (i:=3) (o:=3) (by rw [hs];decide) hi ⟨_,rfl,rfl,rfl,ci⟩;obtain ⟨m4,a4,_⟩:=z0C hu h (i:=4) (o:=4) (by rw [hs];decide) hi ⟨_,rfl,rfl,rfl,ci⟩;obtain ⟨v,n',y,a5,h5⟩:=z3A hu h (i:=5) (o:=5) (by rw [hs];decide) ⟨_,rfl,rfl,rfl,ck⟩;obtain ⟨l,hr,hk⟩:=zbh h5;obtain ⟨ca,cn,cc,rfl⟩:=zdj hr;exact ⟨⟨m0,m1,m2,m3,m4,ca,cn,cc⟩,cs6 ((z3X hu h).1.trans hs) a0 a1 a2 a3 a4 a5,l,hr,hk⟩
theorem zgJ (n : Nat) (cs : List Value) (x : DataW H × List MemPlace) (h : Trd enc W n 96 cs x) : ∃ t : Lv,cs = z8P.enc t ∧ ∃ l : List Ins,RdR W t.cv l ∧ ∀ i ∈ l,zG i.k:=by
 have hu:=Tryz.underlying96;have hs : Tryz.prog.cellsOf 96 = 2:=by kernel_rfl
 have hi : Tryz.prog.underlying 3 = some (.int .i64):=Tryz.underlying3;have ci : Tryz.prog.cellsOf 3 = 1:=by kernel_rfl
 have ck : Tryz.prog.cellsOf 64 = 1:=by kernel_rfl
 obtain ⟨m0,a0,_⟩:=z0C hu h (i:=0) (o:=0) (by rw [hs];decide) hi ⟨_,rfl,rfl,rfl,ci⟩;obtain ⟨v,n',y,a5,h5⟩:=z3A hu h (i:=1) (o:=1) (by rw [hs];decide) ⟨_,rfl,rfl,rfl,ck⟩;obtain ⟨l,hr,hk⟩:=zbh h5;obtain ⟨ca,cn,cc,rfl⟩:=zdj hr;exact ⟨⟨m0,ca,cn,cc⟩,cs2 ((z3X hu h).1.trans hs) a0 a5,l,hr,hk⟩
theorem zhX {l : List Tv} (h : ∀ t ∈ l, ∃ k : List Ins,RdR W t.cv k ∧ ∀ i ∈ k,zG i.k) : ∃ ts : List Tc,l.length = ts.length ∧ ∀ t,t < ts.length → IsT W (l.getD t tv0) (ts.getD t tc0) ∧ ∀ i ∈ (ts.getD t tc0).code,zG i.k:=by
 induction l with
 | nil=>exact ⟨[],rfl,fun t ht=>absurd ht (by simp)⟩
 | cons a l ih =>
  obtain ⟨ts,e,hi⟩:=ih fun t ht=>h t (List.mem_cons_of_mem _ ht);obtain ⟨k,hr,hk⟩:=h a (List.mem_cons_self ..);refine ⟨⟨a.lev,a.off,a.per,a.dl,a.mem,k⟩ :: ts,by simp [e],fun t ht=>?_⟩
  cases t with
  | zero=>exact ⟨⟨rfl,rfl,rfl,rfl,rfl,hr⟩,hk⟩
  | succ t =>
   have:=hi t (by simpa using ht)
   simpa [List.getD] using this
theorem zhW {l : List Lv} (h : ∀ t ∈ l, ∃ k : List Ins,RdR W t.cv k ∧ ∀ i ∈ k,zG i.k) : ∃ ts : List Lc,l.length = ts.length ∧ ∀ t,t < ts.length → IsL W (l.getD t lv0) (ts.getD t lc0) ∧ ∀ i ∈ (ts.getD t lc0).code,zG i.k:=by
 induction l with
 | nil=>exact ⟨[],rfl,fun t ht=>absurd ht (by simp)⟩
 | cons a l ih =>
  obtain ⟨ts,e,hi⟩:=ih fun t ht=>h t (List.mem_cons_of_mem _ ht);obtain ⟨k,hr,hk⟩:=h a (List.mem_cons_self ..);refine ⟨⟨a.mem,k⟩ :: ts,by simp [e],fun t ht=>?_⟩
  cases t with
  | zero=>exact ⟨⟨rfl,hr⟩,hk⟩
  | succ t =>
   have:=hi t (by simpa using ht)
   simpa [List.getD] using this
theorem z4q {base : Nat} {v : Value} {d : DataW H} {p : List MemPlace} (hok : Value.okWide Tryz.prog W .any base 28 v) (h : DataW.Trod enc Tryz.prog W 0 (fun _=>true) true 28 v d p) :
  ∃ c : Cf,z8I W v c ∧ z6B c:=by
 have hu:=Tryz.underlying28;have hs : Tryz.prog.cellsOf 28 = 12:=by kernel_rfl
 have hi : Tryz.prog.underlying 3 = some (.int .i64):=Tryz.underlying3;have hk : Tryz.prog.underlying 25 = some (.int .u32):=Tryz.underlying25;have hq : Tryz.prog.underlying 26 = some (.int .u64):=Tryz.underlying26;have ci : Tryz.prog.cellsOf 3 = 1:=by kernel_rfl
 have ck : Tryz.prog.cellsOf 25 = 1:=by kernel_rfl
 have cq : Tryz.prog.cellsOf 26 = 1:=by kernel_rfl
 have cn : Tryz.prog.cellsOf 24 = 1:=by kernel_rfl
 have ct : Tryz.prog.cellsOf 22 = 1:=by kernel_rfl
 have cl : Tryz.prog.cellsOf 23 = 1:=by kernel_rfl
 obtain ⟨cs,rfl,hsz⟩:=okWide_struct hu hok;obtain ⟨fuel,h⟩:=h;have h : DataW.trod enc Tryz.prog W 0 (fun _=>true) true fuel 28 cs.toList = some (d,p):=h;obtain ⟨v0,n0,y0,a0,h0⟩:=z3A hu h (i:=0) (o:=0) (by rw [hs];decide) ⟨_,rfl,rfl,rfl,ct⟩;obtain ⟨v1,n1,y1,a1,h1⟩:=z3A hu h (i:=1) (o:=1) (by rw [hs];decide) ⟨_,rfl,rfl,rfl,cl⟩;obtain ⟨m2,a2,_⟩:=z0C hu h (i:=2) (o:=2) (by rw [hs];decide) hi ⟨_,rfl,rfl,rfl,ci⟩;obtain ⟨v3,n3,y3,a3,h3⟩:=z3A hu h (i:=3) (o:=3) (by rw [hs];decide) ⟨_,rfl,rfl,rfl,cn⟩;obtain ⟨v4,n4,y4,a4,h4⟩:=z3A hu h (i:=4) (o:=4) (by rw [hs];decide) ⟨_,rfl,rfl,rfl,cn⟩;obtain ⟨v5,n5,y5,a5,h5⟩:=z3A hu h (i:=5) (o:=5) (by rw [hs];decide) ⟨_,rfl,rfl,rfl,cn⟩;obtain ⟨m6,a6,_⟩:=z0C hu h (i:=6) (o:=6) (by rw [hs];decide) hi ⟨_,rfl,rfl,rfl,ci⟩;obtain ⟨m7,a7,w7⟩:=z0C hu h (i:=7) (o:=7) (by rw [hs];decide) hk ⟨_,rfl,rfl,rfl,ck⟩;obtain ⟨m8,a8,w8⟩:=z0C hu h (i:=8) (o:=8) (by rw [hs];decide) hk ⟨_,rfl,rfl,rfl,ck⟩;obtain ⟨m9,a9,_⟩:=z0C hu h (i:=9) (o:=9) (by rw [hs];decide) hi ⟨_,rfl,rfl,rfl,ci⟩;obtain ⟨m10,a10,w10⟩:=z0C hu h (i:=10) (o:=10) (by rw [hs];decide) hq ⟨_,rfl,rfl,rfl,cq⟩;obtain ⟨m11,a11,w11⟩:=z0C hu h (i:=11) (o:=11) (by rw [hs];decide) hq ⟨_,rfl,rfl,rfl,cq⟩;have hcs:=zo5 ((z3X hu h).1.trans hs) a0 a1 a2 a3 a4 a5 a6 a7 a8 a9 a10 a11;obtain ⟨_,T,e0,hT,hTk⟩:=z7R (E:=z8Q) Tryz.underlying22 (by kernel_rfl) zgK h0;obtain ⟨_,L,e1,hL,hLk⟩:=z7R (E:=z8P) Tryz.underlying23 (by kernel_rfl) zgJ h1;obtain ⟨_,S,e3,hS,_⟩:=z7Q Tryz.underlying24 hi ci h3;obtain ⟨_,Q,e4,hQ,_⟩:=z7Q Tryz.underlying24 hi ci h4;obtain ⟨_,M,e5,hM,_⟩:=z7Q Tryz.underlying24 hi ci h5;simp only [List.cons.injEq,and_true] at e0 e1 e3 e4 e5;subst e0;subst e1;subst e3;subst e4;subst e5;obtain ⟨ts,lt,ht⟩:=zhX hTk;obtain ⟨ls,ll,hl⟩:=zhW hLk;have r7:=zbk w7;have r8:=zbk w8;have g7 : ((m7.toNat : Nat) : Int) = m7:=Int.toNat_of_nonneg r7.1;have g8 : ((m8.toNat : Nat) : Int) = m8:=Int.toNat_of_nonneg r8.1;refine ⟨⟨ts,ls,m2,S,Q,M,m6,m7.toNat,m8.toNat,m9,m10,m11⟩,⟨_,_,_,_,_,?_,⟨T,hT,lt,fun t h=>(ht t h).1⟩,⟨L,hL,ll,fun t h=>(hl t h).1⟩,hS,hQ,hM⟩,⟨fun t h=>(ht t h).2,fun t h=>(hl t h).2,?_,?_,ziS w10,ziS w11⟩⟩
 ·rw [← Array.toArray_toList (xs:=cs),hcs];show Value.agg _ = Value.agg _;rw [g7,g8]
 ·have:=r7.2;show m7.toNat < _;omega
 ·have:=r8.2;show m8.toNat < _;omega
end
end Go.Proofs.YthcfimbidmogkaaGreatDoor
namespace Go.Proofs.YthcfimbidmogkaaGreatDoor
open Go.RowKit Go.Sx Go.Dl Go.Lk Go.Rq Go.Au
theorem z9F {c : Cf} (h : zez c) : z5a c :=
 ⟨by have:=h.t;omega,by have:=h.l;omega,by have:=h.s;omega,by have:=h.q;omega,by have:=h.m;omega,fun t ht=>by have:=h.tc t ht;omega,fun t ht=>by have:=h.lc t ht;omega⟩
theorem z4u {c : Cf} (h : z7T c) : z5a c :=
 ⟨by have:=h.nt;omega,by have:=h.nl;omega,by have:=h.ns;omega,by have:=h.nq;omega,by have:=h.nm;omega,fun t ht=>by have:=(h.t t ht).2.2.2.2.2;omega,fun t ht=>by have:=(h.l t ht).2;omega⟩
instance (priority:=1500) Sat.all12 (w0 w : World) (P F : HP) (b : Nat) (xs : List Value) (v0 v1 v2 v3 v4 v5 v6 v7 v8 v9 v10 v11 : Value) [h : Sat w0 w P] [p : z6C P b 0 xs F] [l : zbm xs 12] :
  Sat w0 ((((((((((((w.setCell ⟨b,0,none⟩ v0).setCell ⟨b,1,none⟩ v1).setCell ⟨b,2,none⟩ v2).setCell ⟨b,3,none⟩ v3).setCell ⟨b,4,none⟩ v4).setCell ⟨b,5,none⟩ v5).setCell ⟨b,6,none⟩ v6).setCell ⟨b,7,none⟩ v7).setCell ⟨b,8,none⟩ v8).setCell ⟨b,9,none⟩ v9).setCell ⟨b,10,none⟩ v10).setCell ⟨b,11,none⟩ v11) (pts b 0 [v0,v1,v2,v3,v4,v5,v6,v7,v8,v9,v10,v11] * F) :=
 Sat.setAll [v0,v1,v2,v3,v4,v5,v6,v7,v8,v9,v10,v11] xs (by rw [l.eq];rfl) (h.perm p.eq)
theorem z7V (v0 : Value) (c0 : Cf) (cy co : Int) (w0 : World) (h0 : z8I w0 v0 c0) (k0 : z6B c0) (z1 : (Lit.int .u64 cy).wf = true) (z2 : (Lit.int .u64 co).wf = true) (hT : Tab w0) :
  Calls Tryz.prog 7 #[v0,.int .u64 cy,.int .u64 co] w0 (zp w0 (.bool true) emp):=by
 have hs:=Sat.start w0;have hAw:=hid (fun (w : World) (h : Sat w0 w any)=>z6t w (hT.later h));have hGr:=hid (fun (w : World) (h : Sat w0 w any)=>z9a v0 c0 0 w (h0.later h));have hCp:=hid (fun (sm : z5a c0) (w : World) (h : Sat w0 w any)=>zcG v0 c0 sm w (h0.later h));have r1:=ziS z1;have r2:=ziS z2;have HT:=hid hT;have K0:=hid k0;obtain ⟨ta,la,sa,qa,ma,tc,lc,sc,qc,mc,rfl,_,_,_,_,_⟩:=h0.form;clear h0 z1 z2 hT k0
 go_enter Tryz.func7,Tryz.ntmps7
 go_wp2_with fail;refine (hAw.out _ z3).mono ?_;rintro en w1 ⟨rfl,hs1⟩;have hs2:=Sat.past (w0:=w0) z6 hs1;clear hs1 hs;go_wp2_with fail;refine (hGr.out _ z3).mono ?_;rintro en w2 ⟨z,rfl,hs3,hz⟩;have hs4:=Sat.past (w0:=w0) z6 hs3;have Hz:=hid hz;clear hs3 hs2 hz
 cases z
 case true =>
  go_wp2_with fail;refine (hAw.out _ z3).mono ?_;rintro en w3 ⟨rfl,hs5⟩;have hs6:=Sat.past (w0:=w0) z6 hs5;clear hs5 hs4;go_wp2_with fail;go_ret;exact ⟨rfl,z3⟩
 case false =>
  have hsm:=z9F (Hz.out rfl).1;have hCp2:=hid (hCp.out hsm);clear hCp hsm;go_wp2_with fail;refine (hCp2.out _ z3).mono ?_;rintro en w3 ⟨v3,rfl,hs5⟩;obtain ⟨x,hs6⟩:=(hs5.perm (zz _).symm).ex_out;obtain ⟨⟨e3,hcap⟩,hs7⟩:=(hs6.perm (zb _ _ _)).pur_out;subst e3;have hs8:=Sat.over (w0:=w0) z6 hs7;have Hcap:=hid hcap;clear hs5 hs6 hs7 hs4 hcap;go_wp2_with fail;refine z4C (w0:=w0) ?_;intro w4 hs9;clear hs8;have hs10 : Sat w0 w4 (cfH x { c0 with cycle:=cy,count:=co } * any):=(zq : Sat w0 w4 (cfH x c0 * any));have hcap1 : zjx x { c0 with cycle:=cy,count:=co }:=⟨Hcap.out.ct,Hcap.out.cl,Hcap.out.cs,Hcap.out.cq,Hcap.out.cm,Hcap.out.tv,Hcap.out.lv⟩;have hrd : z8I w4 (.agg (cfL x { c0 with cycle:=cy,count:=co }).toArray) { c0 with cycle:=cy,count:=co }:=zmv hs10 hcap1;have rg1 : z6B { c0 with cycle:=cy,count:=co }:=⟨K0.out.tk,K0.out.lk,K0.out.mask,K0.out.filter,r1,r2⟩;have Hrd:=hid hrd;have Rg:=hid rg1;clear hs10 hcap1 hrd rg1;have harg : (Value.agg #[.slice (x.ct.ad c0.ts.length) c0.ts.length x.ct.cap,.slice (x.cl.ad c0.ls.length) c0.ls.length x.cl.cap,.int .i64 c0.mutexes,.slice (x.cs.ad c0.sems.length) c0.sems.length x.cs.cap,.slice (x.cq.ad c0.queues.length) c0.queues.length x.cq.cap,.slice (x.cm.ad c0.timers.length) c0.timers.length x.cm.cap,.int .i64 c0.table,.int .u32 c0.mask,.int .u32 c0.filter,.int .i64 c0.charge,.int .u64 cy,.int .u64 co]) = Value.agg (cfL x { c0 with cycle:=cy,count:=co }).toArray:=rfl;generalize ({ c0 with cycle:=cy,count:=co } : Cf) = c1 at *;rw [harg];clear harg
  by_cases hok : (z5g c1).err = 0
  case neg =>
   refine (z92 _ c1 Rg.out w4 Hrd.out hok).mono ?_;rintro en w5 ⟨rfl,hp⟩;have hs11:=Sat.past (w0:=w0) z6 hp;clear hp hs9;unfold ftV;go_wp2_with fail;go_ret;exact ⟨rfl,z3⟩
  have Ok:=z4E Rg.out hok;have Iv:=hid (z8W Ok);refine (zhA _ c1 Rg.out (z4u Ok) w4 Hrd.out hok).mono ?_;clear hok Ok;rintro en w5 ⟨v5,rfl,hp1⟩;obtain ⟨b,hp2⟩:=(hp1.perm (zz _).symm).ex_out;obtain ⟨y,hp3⟩:=hp2.ex_out;obtain ⟨e,hp4⟩:=(hp3.perm (zb _ _ _)).pur_out;subst e;have hp5:=Sat.over hs9 hp4;have hs11 : Sat w0 w5 (knP b y c1 (z34 c1) * any):=z3;clear hp1 hp2 hp3 hp4 hp5 hs9;unfold ftV;go_wp2_with fail;refine z9 (w0:=w0) ?_;intro w6 hs12;clear hs11
  go_loopw [9,32] (fun ov i wr=>∃ (k : Nat) (o : Bool) (K : Kn),k ≤ 20 ∧ ov = .bool o ∧ i = .int .i64 k ∧ (Inv c1 K ∧ K.told = [] ∧ K.stopped = o) ∧ Sat w0 wr (knP b y c1 K * any)) (fun _ i _=>20 - (intOf i).toNat)
  case atStart=>exact ⟨0,false,z34 c1,by omega,rfl,rfl,⟨Iv.out,rfl,rfl⟩,z3⟩
  case round =>
   obtain ⟨k,o,K,hk,rfl,rfl,⟨hI,ht,ho⟩,hsr⟩:=hrel;clear hs12
   by_cases hlt : k < 20
   ·have d3 : decide (k < 20) = true:=decide_eq_true hlt;have i3 : (k : Int) < 20:=by omega
    have d4 : decide ((k : Int) < 20) = true:=decide_eq_true i3;have hSt:=hid (fun w G hs=>zbN b y c1 K w0 w G hs);have hSp:=hid (fun w G hs=>z3G b y c1 K w0 w G hs);have hStep:=hid (fun (w : World) (G : HP) (hs : Sat w0 w (knP b y c1 K * G))=>z8n b y c1 K hI ht 0 (by decide) 0 zgo w0 w HT.out G hs)
    cases o
    case true =>
     have hx : (K.step c1 0 0).stopped = true:=by rw [z3U (.inr ho)]
     have hI2:=hid (z23 hI 0 zgo : Inv c1 (K.step c1 0 0));have hT2:=hid (fun w G hs=>z3G b y c1 (K.step c1 0 0) w0 w G hs);rw [hx] at hT2;rw [ho] at hSp;have Hx:=hid hx;clear hx hI ht ho;go_wp2_with fail;refine (hSt.out _ _ Go.Sx.own).mono ?_;rintro en w6 ⟨rfl,hs6⟩;clear hsr;go_wp2_with fail;refine (hSp.out _ _ Go.Sx.own).mono ?_;rintro en w7 ⟨rfl,hs7⟩;clear hs6;go_wp2_with fail;refine (hStep.out _ _ Go.Sx.own).mono ?_;rintro en w8 ⟨v8,rfl,hs8⟩;clear hs7;obtain ⟨va,vc,rfl⟩:=hs8.slice_form;go_wp2_with fail;refine (hT2.out _ _ Go.Sx.own).mono ?_;rintro en w9 ⟨rfl,hs9⟩;clear hs8;go_wp2_with fail;go_roundw
     case rel=>exact ⟨k + 1,true,K.step c1 0 0,by omega,rfl,by go_num,⟨hI2.out,rfl,Hx.out⟩,z3⟩
     case measure=>simp [intOf];omega
    case false =>
     by_cases hfl : K.full
     case pos =>
      by_cases hcn : K.count = 18446744073709551615
      case pos =>
       have b1 : (K.count == 18446744073709551615) = true:=by simp [hcn]
       clear hcn;have hx : (K.step c1 0 0).stopped = true:=by rw [z3U (.inl hfl)]
       have hI2:=hid (z23 hI 0 zgo : Inv c1 (K.step c1 0 0));have hT2:=hid (fun w G hs=>z3G b y c1 (K.step c1 0 0) w0 w G hs);rw [hx] at hT2;rw [ho] at hSp;have Hx:=hid hx;clear hx hI ht ho hfl;go_wp2_with fail;refine (hSt.out _ _ Go.Sx.own).mono ?_;rintro en w6 ⟨rfl,hs6⟩;clear hsr;go_wp2_with fail;refine (hSp.out _ _ Go.Sx.own).mono ?_;rintro en w7 ⟨rfl,hs7⟩;clear hs6;go_wp2_with fail;refine (hStep.out _ _ Go.Sx.own).mono ?_;rintro en w8 ⟨v8,rfl,hs8⟩;clear hs7;obtain ⟨va,vc,rfl⟩:=hs8.slice_form;go_wp2_with fail;refine (hT2.out _ _ Go.Sx.own).mono ?_;rintro en w9 ⟨rfl,hs9⟩;clear hs8;go_wp2_with fail;go_roundw
       case rel=>exact ⟨k + 1,true,K.step c1 0 0,by omega,rfl,by go_num,⟨hI2.out,rfl,Hx.out⟩,z3⟩
       case measure=>simp [intOf];omega
      case neg =>
       have b1 : (K.count == 18446744073709551615) = false:=by simp [hcn]
       have b2 : decide (18446744073709486079 < K.cycle) = true:=by unfold Kn.full at hfl;simp;omega
       clear hcn;have hx : (K.step c1 0 0).stopped = true:=by rw [z3U (.inl hfl)]
       have hI2:=hid (z23 hI 0 zgo : Inv c1 (K.step c1 0 0));have hT2:=hid (fun w G hs=>z3G b y c1 (K.step c1 0 0) w0 w G hs);rw [hx] at hT2;rw [ho] at hSp;have Hx:=hid hx;clear hx hI ht ho hfl;go_wp2_with fail;refine (hSt.out _ _ Go.Sx.own).mono ?_;rintro en w6 ⟨rfl,hs6⟩;clear hsr;go_wp2_with fail;refine (hSp.out _ _ Go.Sx.own).mono ?_;rintro en w7 ⟨rfl,hs7⟩;clear hs6;go_wp2_with fail;refine (hStep.out _ _ Go.Sx.own).mono ?_;rintro en w8 ⟨v8,rfl,hs8⟩;clear hs7;obtain ⟨va,vc,rfl⟩:=hs8.slice_form;go_wp2_with fail;refine (hT2.out _ _ Go.Sx.own).mono ?_;rintro en w9 ⟨rfl,hs9⟩;clear hs8;go_wp2_with fail;go_roundw
       case rel=>exact ⟨k + 1,true,K.step c1 0 0,by omega,rfl,by go_num,⟨hI2.out,rfl,Hx.out⟩,z3⟩
       case measure=>simp [intOf];omega
     case neg =>
      have b1 : (K.count == 18446744073709551615) = false:=by unfold Kn.full at hfl;simp;omega
      have b2 : decide (18446744073709486079 < K.cycle) = false:=by unfold Kn.full at hfl;simp;omega
      have hx : (K.step c1 0 0).stopped = false:=zbb hI hfl ho 0 0;have hI2:=hid (z23 hI 0 zgo : Inv c1 (K.step c1 0 0));have hT2:=hid (fun w G hs=>z3G b y c1 (K.step c1 0 0) w0 w G hs);rw [hx] at hT2;rw [ho] at hSp;have Hx:=hid hx;clear hx hI ht ho hfl;go_wp2_with fail;refine (hSt.out _ _ Go.Sx.own).mono ?_;rintro en w6 ⟨rfl,hs6⟩;clear hsr;go_wp2_with fail;refine (hSp.out _ _ Go.Sx.own).mono ?_;rintro en w7 ⟨rfl,hs7⟩;clear hs6;go_wp2_with fail;refine (hStep.out _ _ Go.Sx.own).mono ?_;rintro en w8 ⟨v8,rfl,hs8⟩;clear hs7;obtain ⟨va,vc,rfl⟩:=hs8.slice_form;go_wp2_with fail;refine (hT2.out _ _ Go.Sx.own).mono ?_;rintro en w9 ⟨rfl,hs9⟩;clear hs8;go_wp2_with fail;go_roundw
      case rel=>exact ⟨k + 1,false,K.step c1 0 0,by omega,rfl,by go_num,⟨hI2.out,rfl,Hx.out⟩,z3⟩
      case measure=>simp [intOf];omega
   ·have hkn : k = 20:=by omega
    subst hkn;clear hlt hk;go_wp2_with fail;go_ret;exact ⟨rfl,z3⟩
end Go.Proofs.YthcfimbidmogkaaGreatDoor
