/-
  Parts of the proof: AuditT AuditNr AuditX1 AuditX2 AuditX3 AuditX4 AuditY AuditZ1 AuditZ2 AuditZ AuditNew.
-/
import Derived.Test.YtkeommmigopnkaaGreatDoorKF9
import Derived.Test.YtkeommmigopnkaaGreatDoorKF10
set_option linter.unusedVariables false
set_option linter.unusedSimpArgs false
set_option maxHeartbeats 32000000
set_option maxRecDepth 100000
namespace Go.Proofs.YtkeommmigopnkaaGreatDoor
open Go.RowKit Go.Sx Go.Au
theorem rfLearn1 (pb:Nat) (A:Au) (a b v:Nat) (cy co:Int) (w0 w:World) (F:HP) (hs:Sat w0 w (rfP pb A*F)) (hA:AOk A) (hok:okN 1 a b v=true) (hv:v<4294967296) :
  Calls Tryz.prog 64 #[.pointer (some ⟨pb,0,none⟩),evA 1 a b v cy co] w (RetV w0 (.tuple #[]) (rfP pb (learn A 1 a b v)*F)):=by
 have ha:a<16:=by simp [okN,shp,win] at hok;omega
 have i1:(a:Int)<16:=by omega
 have i2:decide (a<16)=true:=by simp;omega
 haveI:Lt a A.pn.length:=⟨by rw [hA.lp];omega⟩;have hb:b<256:=by simp [okN,shp,win] at hok;omega
 obtain ⟨g,off,cap,c1,c2,hs⟩:=rfP_out hA hs
 go_enter Tryz.func64,Tryz.ntmps64
 go_wp2_with fail;go_quiet (fail);go_wp2_with fail;go_returns;refine ⟨rfl,rfP_of (v:=.slice (some ⟨g,off,none⟩) 64 cap) ?_⟩;rw [show learn A 1 a b v={ A with pn:=A.pn.set a true } from rfl];dsimp only [setT,tkAt,duEv];exact own_left
theorem rfLearn2 (pb:Nat) (A:Au) (a b v:Nat) (cy co:Int) (w0 w:World) (F:HP) (hs:Sat w0 w (rfP pb A*F)) (hA:AOk A) (hok:okN 2 a b v=true) (hv:v<4294967296) :
  Calls Tryz.prog 64 #[.pointer (some ⟨pb,0,none⟩),evA 2 a b v cy co] w (RetV w0 (.tuple #[]) (rfP pb (learn A 2 a b v)*F)):=by
 have ha:a<256:=by simp [okN,shp,win] at hok;omega
 have hb:b<256:=by simp [okN,shp,win] at hok;omega
 obtain ⟨g,off,cap,c1,c2,hs⟩:=rfP_out hA hs
 go_enter Tryz.func64,Tryz.ntmps64
 go_wp2_with fail;go_quiet (fail);go_wp2_with fail;go_returns;refine ⟨rfl,rfP_of (v:=.slice (some ⟨g,off,none⟩) 64 cap) ?_⟩;rw [show learn A 2 a b v=A from rfl];exact own_left
theorem rfLearn14 (pb:Nat) (A:Au) (a b v:Nat) (cy co:Int) (w0 w:World) (F:HP) (hs:Sat w0 w (rfP pb A*F)) (hA:AOk A) (hok:okN 14 a b v=true) (hv:v<4294967296) :
  Calls Tryz.prog 64 #[.pointer (some ⟨pb,0,none⟩),evA 14 a b v cy co] w (RetV w0 (.tuple #[]) (rfP pb (learn A 14 a b v)*F)):=by
 have ha:a<256:=by simp [okN,shp,win] at hok;omega
 have hb:b<256:=by simp [okN,shp,win] at hok;omega
 obtain ⟨g,off,cap,c1,c2,hs⟩:=rfP_out hA hs
 go_enter Tryz.func64,Tryz.ntmps64
 go_wp2_with fail;go_quiet (fail);go_wp2_with fail;go_returns;refine ⟨rfl,rfP_of (v:=.slice (some ⟨g,off,none⟩) 64 cap) ?_⟩;rw [show learn A 14 a b v=A from rfl];exact own_left
theorem rfLearn15 (pb:Nat) (A:Au) (a b v:Nat) (cy co:Int) (w0 w:World) (F:HP) (hs:Sat w0 w (rfP pb A*F)) (hA:AOk A) (hok:okN 15 a b v=true) (hv:v<4294967296) :
  Calls Tryz.prog 64 #[.pointer (some ⟨pb,0,none⟩),evA 15 a b v cy co] w (RetV w0 (.tuple #[]) (rfP pb (learn A 15 a b v)*F)):=by
 have ha:a<256:=by simp [okN,shp,win] at hok;omega
 have hb:b<256:=by simp [okN,shp,win] at hok;omega
 obtain ⟨g,off,cap,c1,c2,hs⟩:=rfP_out hA hs
 go_enter Tryz.func64,Tryz.ntmps64
 go_wp2_with fail;go_quiet (fail);go_wp2_with fail;go_returns;refine ⟨rfl,rfP_of (v:=.slice (some ⟨g,off,none⟩) 64 cap) ?_⟩;rw [show learn A 15 a b v=A from rfl];exact own_left
theorem rfLearn16 (pb:Nat) (A:Au) (a b v:Nat) (cy co:Int) (w0 w:World) (F:HP) (hs:Sat w0 w (rfP pb A*F)) (hA:AOk A) (hok:okN 16 a b v=true) (hv:v<4294967296) :
  Calls Tryz.prog 64 #[.pointer (some ⟨pb,0,none⟩),evA 16 a b v cy co] w (RetV w0 (.tuple #[]) (rfP pb (learn A 16 a b v)*F)):=by
 have ha:a<256:=by simp [okN,shp,win] at hok;omega
 have hb:b<256:=by simp [okN,shp,win] at hok;omega
 obtain ⟨g,off,cap,c1,c2,hs⟩:=rfP_out hA hs
 go_enter Tryz.func64,Tryz.ntmps64
 go_wp2_with fail;go_quiet (fail);go_wp2_with fail;go_returns;refine ⟨rfl,rfP_of (v:=.slice (some ⟨g,off,none⟩) 64 cap) ?_⟩;rw [show learn A 16 a b v=A from rfl];exact own_left
theorem rfLearn17 (pb:Nat) (A:Au) (a b v:Nat) (cy co:Int) (w0 w:World) (F:HP) (hs:Sat w0 w (rfP pb A*F)) (hA:AOk A) (hok:okN 17 a b v=true) (hv:v<4294967296) :
  Calls Tryz.prog 64 #[.pointer (some ⟨pb,0,none⟩),evA 17 a b v cy co] w (RetV w0 (.tuple #[]) (rfP pb (learn A 17 a b v)*F)):=by
 have ha:a<256:=by simp [okN,shp,win] at hok;omega
 have hb:b<256:=by simp [okN,shp,win] at hok;omega
 obtain ⟨g,off,cap,c1,c2,hs⟩:=rfP_out hA hs
 go_enter Tryz.func64,Tryz.ntmps64
 go_wp2_with fail;go_quiet (fail);go_wp2_with fail;go_returns;refine ⟨rfl,rfP_of (v:=.slice (some ⟨g,off,none⟩) 64 cap) ?_⟩;rw [show learn A 17 a b v=A from rfl];exact own_left
theorem rfLearn18 (pb:Nat) (A:Au) (a b v:Nat) (cy co:Int) (w0 w:World) (F:HP) (hs:Sat w0 w (rfP pb A*F)) (hA:AOk A) (hok:okN 18 a b v=true) (hv:v<4294967296) :
  Calls Tryz.prog 64 #[.pointer (some ⟨pb,0,none⟩),evA 18 a b v cy co] w (RetV w0 (.tuple #[]) (rfP pb (learn A 18 a b v)*F)):=by
 have ha:a<256:=by simp [okN,shp,win] at hok;omega
 have hb:b<256:=by simp [okN,shp,win] at hok;omega
 obtain ⟨g,off,cap,c1,c2,hs⟩:=rfP_out hA hs
 go_enter Tryz.func64,Tryz.ntmps64
 go_wp2_with fail;go_quiet (fail);go_wp2_with fail;go_returns;refine ⟨rfl,rfP_of (v:=.slice (some ⟨g,off,none⟩) 64 cap) ?_⟩;rw [show learn A 18 a b v=A from rfl];exact own_left
theorem rfLearn19 (pb:Nat) (A:Au) (a b v:Nat) (cy co:Int) (w0 w:World) (F:HP) (hs:Sat w0 w (rfP pb A*F)) (hA:AOk A) (hok:okN 19 a b v=true) (hv:v<4294967296) :
  Calls Tryz.prog 64 #[.pointer (some ⟨pb,0,none⟩),evA 19 a b v cy co] w (RetV w0 (.tuple #[]) (rfP pb (learn A 19 a b v)*F)):=by
 have ha:a<256:=by simp [okN,shp,win] at hok;omega
 have hb:b<256:=by simp [okN,shp,win] at hok;omega
 obtain ⟨g,off,cap,c1,c2,hs⟩:=rfP_out hA hs
 go_enter Tryz.func64,Tryz.ntmps64
 go_wp2_with fail;go_quiet (fail);go_wp2_with fail;go_returns;refine ⟨rfl,rfP_of (v:=.slice (some ⟨g,off,none⟩) 64 cap) ?_⟩;rw [show learn A 19 a b v=A from rfl];exact own_left
theorem rfLearn20 (pb:Nat) (A:Au) (a b v:Nat) (cy co:Int) (w0 w:World) (F:HP) (hs:Sat w0 w (rfP pb A*F)) (hA:AOk A) (hok:okN 20 a b v=true) (hv:v<4294967296) :
  Calls Tryz.prog 64 #[.pointer (some ⟨pb,0,none⟩),evA 20 a b v cy co] w (RetV w0 (.tuple #[]) (rfP pb (learn A 20 a b v)*F)):=by
 have ha:a<256:=by simp [okN,shp,win] at hok;omega
 have hb:b<256:=by simp [okN,shp,win] at hok;omega
 obtain ⟨g,off,cap,c1,c2,hs⟩:=rfP_out hA hs
 go_enter Tryz.func64,Tryz.ntmps64
 go_wp2_with fail;go_quiet (fail);go_wp2_with fail;go_returns;refine ⟨rfl,rfP_of (v:=.slice (some ⟨g,off,none⟩) 64 cap) ?_⟩;rw [show learn A 20 a b v=A from rfl];exact own_left
theorem rfLearn23 (pb:Nat) (A:Au) (a b v:Nat) (cy co:Int) (w0 w:World) (F:HP) (hs:Sat w0 w (rfP pb A*F)) (hA:AOk A) (hok:okN 23 a b v=true) (hv:v<4294967296) :
  Calls Tryz.prog 64 #[.pointer (some ⟨pb,0,none⟩),evA 23 a b v cy co] w (RetV w0 (.tuple #[]) (rfP pb (learn A 23 a b v)*F)):=by
 have ha:a<256:=by simp [okN,shp,win] at hok;omega
 have hb:b<256:=by simp [okN,shp,win] at hok;omega
 obtain ⟨g,off,cap,c1,c2,hs⟩:=rfP_out hA hs
 go_enter Tryz.func64,Tryz.ntmps64
 go_wp2_with fail;go_quiet (fail);go_wp2_with fail;go_returns;refine ⟨rfl,rfP_of (v:=.slice (some ⟨g,off,none⟩) 64 cap) ?_⟩;rw [show learn A 23 a b v=A from rfl];exact own_left
theorem rfLearn24 (pb:Nat) (A:Au) (a b v:Nat) (cy co:Int) (w0 w:World) (F:HP) (hs:Sat w0 w (rfP pb A*F)) (hA:AOk A) (hok:okN 24 a b v=true) (hv:v<4294967296) :
  Calls Tryz.prog 64 #[.pointer (some ⟨pb,0,none⟩),evA 24 a b v cy co] w (RetV w0 (.tuple #[]) (rfP pb (learn A 24 a b v)*F)):=by
 have ha:a<256:=by simp [okN,shp,win] at hok;omega
 have hb:b<256:=by simp [okN,shp,win] at hok;omega
 obtain ⟨g,off,cap,c1,c2,hs⟩:=rfP_out hA hs
 go_enter Tryz.func64,Tryz.ntmps64
 go_wp2_with fail;go_quiet (fail);go_wp2_with fail;go_returns;refine ⟨rfl,rfP_of (v:=.slice (some ⟨g,off,none⟩) 64 cap) ?_⟩;rw [show learn A 24 a b v=A from rfl];exact own_left
theorem rfLearn3 (pb:Nat) (A:Au) (a b v:Nat) (cy co:Int) (w0 w:World) (F:HP) (hs:Sat w0 w (rfP pb A*F)) (hA:AOk A) (hok:okN 3 a b v=true) (hv:v<4294967296) :
  Calls Tryz.prog 64 #[.pointer (some ⟨pb,0,none⟩),evA 3 a b v cy co] w (RetV w0 (.tuple #[]) (rfP pb (learn A 3 a b v)*F)):=by
 have ha:a<16:=by simp [okN,shp,win] at hok;omega
 have i1:(a:Int)<16:=by omega
 have i2:decide (a<16)=true:=by simp;omega
 haveI:Lt a A.pn.length:=⟨by rw [hA.lp];omega⟩;have hb:b<256:=by simp [okN,shp,win] at hok;omega
 obtain ⟨g,off,cap,c1,c2,hs⟩:=rfP_out hA hs
 go_enter Tryz.func64,Tryz.ntmps64
 go_wp2_with fail;go_quiet (fail);go_wp2_with fail;go_returns;refine ⟨rfl,rfP_of (v:=.slice (some ⟨g,off,none⟩) 64 cap) ?_⟩;rw [show learn A 3 a b v={ A with pn:=A.pn.set a false,isr:=(a:Int)+1 } from rfl];dsimp only [setT,tkAt,duEv];rw [Int.add_sub_cancel];exact own_left
theorem rfLearn4 (pb:Nat) (A:Au) (a b v:Nat) (cy co:Int) (w0 w:World) (F:HP) (hs:Sat w0 w (rfP pb A*F)) (hA:AOk A) (hok:okN 4 a b v=true) (hv:v<4294967296) :
  Calls Tryz.prog 64 #[.pointer (some ⟨pb,0,none⟩),evA 4 a b v cy co] w (RetV w0 (.tuple #[]) (rfP pb (learn A 4 a b v)*F)):=by
 have ha:a<16:=by simp [okN,shp,win] at hok;omega
 have i1:(a:Int)<16:=by omega
 have i2:decide (a<16)=true:=by simp;omega
 haveI:Lt a A.pn.length:=⟨by rw [hA.lp];omega⟩;have hb:b<256:=by simp [okN,shp,win] at hok;omega
 obtain ⟨g,off,cap,c1,c2,hs⟩:=rfP_out hA hs
 go_enter Tryz.func64,Tryz.ntmps64
 go_wp2_with fail;go_quiet (fail);go_wp2_with fail;go_returns;refine ⟨rfl,rfP_of (v:=.slice (some ⟨g,off,none⟩) 64 cap) ?_⟩;rw [show learn A 4 a b v={ A with isr:=0 } from rfl];dsimp only [setT,tkAt,duEv];rw [show (0:Int)-1=-1 from rfl];exact own_left
theorem rfLearn5 (pb:Nat) (A:Au) (a b v:Nat) (cy co:Int) (w0 w:World) (F:HP) (hs:Sat w0 w (rfP pb A*F)) (hA:AOk A) (hok:okN 5 a b v=true) (hv:v<4294967296) :
  Calls Tryz.prog 64 #[.pointer (some ⟨pb,0,none⟩),evA 5 a b v cy co] w (RetV w0 (.tuple #[]) (rfP pb (learn A 5 a b v)*F)):=by
 have ha:a<256:=by simp [okN,shp,win] at hok;omega
 have hb:b<256:=by simp [okN,shp,win] at hok;omega
 have Hrn:Hid (rn (if a=255 then 0 else (a:Int)+1)=(a:Int)):=by
  unfold Hid rn
  by_cases h:a=255
  ·subst h;rfl
  ·rw [if_neg h,if_neg (by omega)];omega
 obtain ⟨g,off,cap,c1,c2,hs⟩:=rfP_out hA hs
 go_enter Tryz.func64,Tryz.ntmps64
 go_wp2_with fail;go_quiet (fail);go_wp2_with fail;go_returns;refine ⟨rfl,rfP_of (v:=.slice (some ⟨g,off,none⟩) 64 cap) ?_⟩;rw [show learn A 5 a b v={ A with run:=if a=255 then 0 else (a:Int)+1 } from rfl];dsimp only [setT,tkAt,duEv];rw [Hrn.out];exact own_left
theorem rfLearn6 (pb:Nat) (A:Au) (a b v:Nat) (cy co:Int) (w0 w:World) (F:HP) (hs:Sat w0 w (rfP pb A*F)) (hA:AOk A) (hok:okN 6 a b v=true) (hv:v<4294967296) :
    Calls Tryz.prog 64 #[.pointer (some ⟨pb, 0, none⟩), evA 6 a b v cy co] w (RetV w0 (.tuple #[]) (rfP pb (learn A 6 a b v)*F)) := by
  have ha:a<64 := by simp [okN, shp, win] at hok; omega
  have i1:(a:Int)<64 := by omega
  have i2:decide (a<64)=true := by simp; omega
  haveI:Lt a A.ts.length := ⟨by rw [hA.lt]; omega⟩;have hb:b<256 := by simp [okN, shp, win] at hok; omega
  have hm := tkg_mem (l := A.ts) (k := a) this.lt;have hl := hA.late _ hm;have Hl := hid (learn6 A a b v);obtain ⟨g, off, cap, c1, c2, hs⟩ := rfP_out hA hs;clear hm;have q4:IntKind.i64.wrap ((tkg A.ts a).late-1)=(tkg A.ts a).late-1 := by rw [IntKind.wrap_i64]; omega
  by_cases hp:0<(tkg A.ts a).late
  all_goals
    first
      | (have p1:decide (0<(tkg A.ts a).late)=true := by simp [hp]
         have Hm:Hid (max ((tkg A.ts a).late-1) 0=(tkg A.ts a).late-1) := by unfold Hid; omega)
      | (have p1:decide (0<(tkg A.ts a).late)=false := by simp [hp]
         have Hm:Hid (max ((tkg A.ts a).late-1) 0=(tkg A.ts a).late) := by unfold Hid; omega)
    clear hp
    go_enter Tryz.func64, Tryz.ntmps64
    go_wp2_with fail;go_quiet (fail);go_wp2_with fail;refine wp_gen (w0 := w0) ?_; intro wx hsx; go_still_tail 9, (by kernel_rfl); change wpList _ _ _ _ _ wx.drew; go_wp2_with fail;go_returns;refine ⟨rfl, rfP_of (v := .slice (some ⟨g, off, none⟩) 64 cap) ?_⟩;rw [Hl.out];dsimp only [setT, tkAt, duEv];rw [Hm.out];exact own_left
theorem rfLearn7 (pb:Nat) (A:Au) (a b v:Nat) (cy co:Int) (w0 w:World) (F:HP) (hs:Sat w0 w (rfP pb A*F)) (hA:AOk A) (hok:okN 7 a b v=true) (hv:v<4294967296) :
  Calls Tryz.prog 64 #[.pointer (some ⟨pb,0,none⟩),evA 7 a b v cy co] w (RetV w0 (.tuple #[]) (rfP pb (learn A 7 a b v)*F)):=by
 have ha:a<64:=by simp [okN,shp,win] at hok;omega
 have i1:(a:Int)<64:=by omega
 have i2:decide (a<64)=true:=by simp;omega
 haveI:Lt a A.ts.length:=⟨by rw [hA.lt];omega⟩;have hb:b<256:=by simp [okN,shp,win] at hok;omega
 have Hl:=hid (learn7 A a b v);obtain ⟨g,off,cap,c1,c2,hs⟩:=rfP_out hA hs
 go_enter Tryz.func64,Tryz.ntmps64
 go_wp2_with fail;go_quiet (fail);go_wp2_with fail;refine wp_gen (w0:=w0) ?_;intro wz hsz
 go_still_tail 10,(by kernel_rfl)
 change wpList _ _ _ _ _ wz.drew
 go_wp2_with fail;go_returns;refine ⟨rfl,rfP_of (v:=.slice (some ⟨g,off,none⟩) 64 cap) ?_⟩;rw [Hl.out];dsimp only [setT,tkAt,duEv];exact own_left
theorem rfLearn8 (pb:Nat) (A:Au) (a b v:Nat) (cy co:Int) (w0 w:World) (F:HP) (hs:Sat w0 w (rfP pb A*F)) (hA:AOk A) (hok:okN 8 a b v=true) (hv:v<4294967296) :
    Calls Tryz.prog 64 #[.pointer (some ⟨pb, 0, none⟩), evA 8 a b v cy co] w (RetV w0 (.tuple #[]) (rfP pb (learn A 8 a b v)*F)) := by
  have ha:a<64 := by simp [okN, shp, win] at hok; omega
  have i1:(a:Int)<64 := by omega
  have i2:decide (a<64)=true := by simp; omega
  haveI:Lt a A.ts.length := ⟨by rw [hA.lt]; omega⟩;have hb:b<256 := by simp [okN, shp, win] at hok; omega
  have hm := tkg_mem (l := A.ts) (k := a) this.lt;have hl := hA.late _ hm;have Hl := hid (learn8 A a b v);obtain ⟨g, off, cap, c1, c2, hs⟩ := rfP_out hA hs;clear hm
  by_cases hp:0<(tkg A.ts a).late
  all_goals
    first
      | (have p1:decide (0<(tkg A.ts a).late)=true := by simp [hp]
         have Hd:Hid ((if (tkAt A a).late > 0 then (⟨6, a, 0⟩:Du) else A.due)=⟨6, a, 0⟩) := by unfold Hid; exact if_pos hp)
      | (have p1:decide (0<(tkg A.ts a).late)=false := by simp [hp]
         have Hd:Hid ((if (tkAt A a).late > 0 then (⟨6, a, 0⟩:Du) else A.due)=A.due) := by unfold Hid; exact if_neg hp)
    clear hp
    go_enter Tryz.func64, Tryz.ntmps64
    go_wp2_with fail;go_quiet (fail);go_wp2_with fail;go_returns;refine ⟨rfl, rfP_of (v := .slice (some ⟨g, off, none⟩) 64 cap) ?_⟩;rw [Hl.out, Hd.out];dsimp only [setT, tkAt, duEv];exact own_left
theorem rfLearn9 (pb:Nat) (A:Au) (a b v:Nat) (cy co:Int) (w0 w:World) (F:HP) (hs:Sat w0 w (rfP pb A*F)) (hA:AOk A) (hok:okN 9 a b v=true) (hv:v<4294967296) :
  Calls Tryz.prog 64 #[.pointer (some ⟨pb,0,none⟩),evA 9 a b v cy co] w (RetV w0 (.tuple #[]) (rfP pb (learn A 9 a b v)*F)):=by
 have ha:a<64:=by simp [okN,shp,win] at hok;omega
 have i1:(a:Int)<64:=by omega
 have i2:decide (a<64)=true:=by simp;omega
 haveI:Lt a A.ts.length:=⟨by rw [hA.lt];omega⟩;have hb:b<256:=by simp [okN,shp,win] at hok;omega
 have Hl:=hid (learn9 A a b v);obtain ⟨g,off,cap,c1,c2,hs⟩:=rfP_out hA hs
 go_enter Tryz.func64,Tryz.ntmps64
 go_wp2_with fail;go_quiet (fail);go_wp2_with fail;go_returns;refine ⟨rfl,rfP_of (v:=.slice (some ⟨g,off,none⟩) 64 cap) ?_⟩;rw [Hl.out];dsimp only [setT,tkAt,duEv];exact own_left
theorem rfLearn10 (pb:Nat) (A:Au) (a b v:Nat) (cy co:Int) (w0 w:World) (F:HP) (hs:Sat w0 w (rfP pb A*F)) (hA:AOk A) (hok:okN 10 a b v=true) (hv:v<4294967296) :
  Calls Tryz.prog 64 #[.pointer (some ⟨pb,0,none⟩),evA 10 a b v cy co] w (RetV w0 (.tuple #[]) (rfP pb (learn A 10 a b v)*F)):=by
 have ha:a<64:=by simp [okN,shp,win] at hok;omega
 have i1:(a:Int)<64:=by omega
 have i2:decide (a<64)=true:=by simp;omega
 haveI:Lt a A.ts.length:=⟨by rw [hA.lt];omega⟩;have hb:b<256:=by simp [okN,shp,win] at hok;omega
 have hm:=tkg_mem (l:=A.ts) (k:=a) this.lt;have hon:=hA.on _ hm;have Hl:=hid (learn10 A a b v);obtain ⟨g,off,cap,c1,c2,hs⟩:=rfP_out hA hs;clear hm
 by_cases hmu:isMu (tkg A.ts a).on=true
 ·have hm32:32≤(tkg A.ts a).on∧(tkg A.ts a).on<64:=by simp [isMu] at hmu;omega
  have g1:decide ((32:Int)≤((tkg A.ts a).on:Int))=true:=by simp;omega
  have g2:decide (((tkg A.ts a).on:Int)≤63)=true:=by simp;omega
  have hsub:Hid ((((tkg A.ts a).on-32:Nat):Int)=((tkg A.ts a).on:Int)-32):=by unfold Hid;omega
  have hm2:isMu (tkAt A a).on=true:=hmu;rw [hm2] at Hl;have Hl2:Hid (learn A 10 a b v={ setT A a { tkAt A a with st:=1 } with due:=⟨12,a,(tkAt A a).on-32⟩ }):=Hl;clear Hl hmu hm2
  go_enter Tryz.func64,Tryz.ntmps64
  go_wp2_with fail;go_quiet (fail);go_wp2_with fail;go_returns;refine ⟨rfl,rfP_of (v:=.slice (some ⟨g,off,none⟩) 64 cap) ?_⟩;rw [Hl2.out];dsimp only [setT,tkAt,duEv];dsimp only [evCells];rw [hsub.out];exact own_left
 ·rw [Bool.not_eq_true] at hmu;have hm32:(tkg A.ts a).on<32∨63<(tkg A.ts a).on:=by simp [isMu] at hmu;omega
  have hm2:isMu (tkAt A a).on=false:=hmu;rw [hm2] at Hl;have Hl2:Hid (learn A 10 a b v=setT A a { tkAt A a with st:=1 }):=Hl;clear Hl hmu hm2
  by_cases gq:32≤(tkg A.ts a).on
  ·have g1:decide ((32:Int)≤((tkg A.ts a).on:Int))=true:=by simp;omega
   have g2:decide (((tkg A.ts a).on:Int)≤63)=false:=by simp;omega
   clear hm32
   go_enter Tryz.func64,Tryz.ntmps64
   go_wp2_with fail;go_quiet (fail);go_wp2_with fail;go_returns;refine ⟨rfl,rfP_of (v:=.slice (some ⟨g,off,none⟩) 64 cap) ?_⟩;rw [Hl2.out];dsimp only [setT,tkAt,duEv];exact own_left
  ·have g1:decide ((32:Int)≤((tkg A.ts a).on:Int))=false:=by simp;omega
   clear hm32
   go_enter Tryz.func64,Tryz.ntmps64
   go_wp2_with fail;go_quiet (fail);go_wp2_with fail;go_returns;refine ⟨rfl,rfP_of (v:=.slice (some ⟨g,off,none⟩) 64 cap) ?_⟩;rw [Hl2.out];dsimp only [setT,tkAt,duEv];exact own_left
theorem rfLearn11 (pb:Nat) (A:Au) (a b v:Nat) (cy co:Int) (w0 w:World) (F:HP) (hs:Sat w0 w (rfP pb A*F)) (hA:AOk A) (hok:okN 11 a b v=true) (hv:v<4294967296) :
  Calls Tryz.prog 64 #[.pointer (some ⟨pb,0,none⟩),evA 11 a b v cy co] w (RetV w0 (.tuple #[]) (rfP pb (learn A 11 a b v)*F)):=by
 have ha:a<64:=by simp [okN,shp,win] at hok;omega
 have i1:(a:Int)<64:=by omega
 have i2:decide (a<64)=true:=by simp;omega
 haveI:Lt a A.ts.length:=⟨by rw [hA.lt];omega⟩;have hb:b<32:=by simp [okN,shp,win] at hok;omega
 obtain ⟨g,off,cap,c1,c2,hs⟩:=rfP_out hA hs
 go_enter Tryz.func64,Tryz.ntmps64
 go_wp2_with fail;go_quiet (fail);go_wp2_with fail;go_returns;refine ⟨rfl,rfP_of (v:=.slice (some ⟨g,off,none⟩) 64 cap) ?_⟩;rw [show learn A 11 a b v=setT A a { tkAt A a with lev:=(b:Int)+1 } from rfl];dsimp only [setT,tkAt,duEv];exact own_left
theorem rfLearn12 (pb:Nat) (A:Au) (a b v:Nat) (cy co:Int) (w0 w:World) (F:HP) (hs:Sat w0 w (rfP pb A*F)) (hA:AOk A) (hok:okN 12 a b v=true) (hv:v<4294967296) :
  Calls Tryz.prog 64 #[.pointer (some ⟨pb,0,none⟩),evA 12 a b v cy co] w (RetV w0 (.tuple #[]) (rfP pb (learn A 12 a b v)*F)):=by
 have ha:a<64:=by simp [okN,shp,win] at hok;omega
 have i1:(a:Int)<64:=by omega
 have i2:decide (a<64)=true:=by simp;omega
 haveI:Lt a A.ts.length:=⟨by rw [hA.lt];omega⟩;have hb:b<32:=by simp [okN,shp,win] at hok;omega
 have i3:(b:Int)<32:=by omega
 have i4:decide (b<32)=true:=by simp;omega
 haveI:Lt b A.ow.length:=⟨by rw [hA.lo];omega⟩;obtain ⟨g,off,cap,c1,c2,hs⟩:=rfP_out hA hs
 go_enter Tryz.func64,Tryz.ntmps64
 go_wp2_with fail;go_quiet (fail);go_wp2_with fail;go_returns;refine ⟨rfl,rfP_of (v:=.slice (some ⟨g,off,none⟩) 64 cap) ?_⟩;rw [show learn A 12 a b v={ A with ow:=A.ow.set b ((a:Int)+1) } from rfl];dsimp only [setT,tkAt,duEv];exact own_left
theorem rfLearn13 (pb:Nat) (A:Au) (a b v:Nat) (cy co:Int) (w0 w:World) (F:HP) (hs:Sat w0 w (rfP pb A*F)) (hA:AOk A) (hok:okN 13 a b v=true) (hv:v<4294967296) :
  Calls Tryz.prog 64 #[.pointer (some ⟨pb,0,none⟩),evA 13 a b v cy co] w (RetV w0 (.tuple #[]) (rfP pb (learn A 13 a b v)*F)):=by
 have ha:a<64:=by simp [okN,shp,win] at hok;omega
 have i1:(a:Int)<64:=by omega
 have i2:decide (a<64)=true:=by simp;omega
 haveI:Lt a A.ts.length:=⟨by rw [hA.lt];omega⟩;have hb:b<32:=by simp [okN,shp,win] at hok;omega
 have i3:(b:Int)<32:=by omega
 have i4:decide (b<32)=true:=by simp;omega
 haveI:Lt b A.ow.length:=⟨by rw [hA.lo];omega⟩;obtain ⟨g,off,cap,c1,c2,hs⟩:=rfP_out hA hs
 go_enter Tryz.func64,Tryz.ntmps64
 go_wp2_with fail;go_quiet (fail);go_wp2_with fail;go_returns;refine ⟨rfl,rfP_of (v:=.slice (some ⟨g,off,none⟩) 64 cap) ?_⟩;rw [show learn A 13 a b v={ A with ow:=A.ow.set b (-1+1) } from rfl];dsimp only [setT,tkAt,duEv];exact own_left
theorem rfLearn22 (pb:Nat) (A:Au) (a b v:Nat) (cy co:Int) (w0 w:World) (F:HP) (hs:Sat w0 w (rfP pb A*F)) (hA:AOk A) (hok:okN 22 a b v=true) (hv:v<4294967296) :
  Calls Tryz.prog 64 #[.pointer (some ⟨pb,0,none⟩),evA 22 a b v cy co] w (RetV w0 (.tuple #[]) (rfP pb (learn A 22 a b v)*F)):=by
 have ha:a<64:=by simp [okN,shp,win] at hok;omega
 have i1:(a:Int)<64:=by omega
 have i2:decide (a<64)=true:=by simp;omega
 haveI:Lt a A.ts.length:=⟨by rw [hA.lt];omega⟩;have hb:b<256:=by simp [okN,shp,win] at hok;omega
 obtain ⟨g,off,cap,c1,c2,hs⟩:=rfP_out hA hs
 go_enter Tryz.func64,Tryz.ntmps64
 go_wp2_with fail;go_quiet (fail);go_wp2_with fail;go_returns;refine ⟨rfl,rfP_of (v:=.slice (some ⟨g,off,none⟩) 64 cap) ?_⟩;rw [show learn A 22 a b v=setT A a { tkAt A a with st:=3 } from rfl];dsimp only [setT,tkAt,duEv];exact own_left
theorem rfLearn21 (pb:Nat) (A:Au) (a b v:Nat) (cy co:Int) (w0 w:World) (F:HP) (hs:Sat w0 w (rfP pb A*F)) (hA:AOk A) (hok:okN 21 a b v=true) (hv:v<4294967296) :
  Calls Tryz.prog 64 #[.pointer (some ⟨pb,0,none⟩),evA 21 a b v cy co] w (RetV w0 (.tuple #[]) (rfP pb (learn A 21 a b v)*F)):=by
 have ha:a<80:=by simp [okN,shp,win] at hok;omega
 have hb:b<256:=by simp [okN,shp,win] at hok;omega
 obtain ⟨g,off,cap,c1,c2,hs⟩:=rfP_out hA hs
 by_cases h1:a<64
 ·have i1:(a:Int)<64:=by omega
  have i2:decide (a<64)=true:=by simp;omega
  have i3:decide ((64:Int)≤(a:Int))=false:=by simp;omega
  have i4:¬ (64:Int)≤(a:Int):=by omega
  haveI:Lt a A.ts.length:=⟨by rw [hA.lt];omega⟩;have Hl:Hid (learn A 21 a b v=setT A a { tkAt A a with st:=3 }):=by simp [Hid,learn,h1]
  go_enter Tryz.func64,Tryz.ntmps64
  go_wp2_with fail;go_quiet (fail);go_wp2_with fail;go_returns;refine ⟨rfl,rfP_of (v:=.slice (some ⟨g,off,none⟩) 64 cap) ?_⟩;rw [Hl.out];dsimp only [setT,tkAt,duEv];exact own_left
 ·have i3:decide ((64:Int)≤(a:Int))=true:=by simp;omega
  have i4:(64:Int)≤(a:Int):=by omega
  have Hl:Hid (learn A 21 a b v={ A with due:=⟨4,a-64,0⟩ }):=by simp [Hid,learn,h1]
  have hsub:Hid (((a-64:Nat):Int)=(a:Int)-64):=by unfold Hid;omega
  go_enter Tryz.func64,Tryz.ntmps64
  go_wp2_with fail;go_quiet (fail);go_wp2_with fail;go_returns;refine ⟨rfl,rfP_of (v:=.slice (some ⟨g,off,none⟩) 64 cap) ?_⟩;rw [Hl.out];dsimp only [setT,tkAt,duEv];dsimp only [evCells];rw [hsub.out];exact own_left
theorem rfLearn (pb:Nat) (A:Au) (k a b v:Nat) (hk:1≤k∧k≤24) (cy co:Int) (w0 w:World) (F:HP) (hs:Sat w0 w (rfP pb A*F)) (hA:AOk A) (hok:okN k a b v=true) (hv:v<4294967296) :
  Calls Tryz.prog 64 #[.pointer (some ⟨pb,0,none⟩),evA k a b v cy co] w (RetV w0 (.tuple #[]) (rfP pb (learn A k a b v)*F)):=by
 have h:k=1∨k=2∨k=3∨k=4∨k=5∨k=6∨k=7∨k=8∨k=9∨k=10∨k=11∨k=12∨k=13∨k=14∨k=15∨k=16∨k=17∨k=18∨k=19∨k=20∨k=21∨k=22∨k=23∨k=24:=by omega
 rcases h with rfl | rfl | rfl | rfl | rfl | rfl | rfl | rfl | rfl | rfl | rfl | rfl | rfl | rfl | rfl | rfl | rfl | rfl | rfl | rfl | rfl | rfl | rfl | rfl
 ·exact rfLearn1 pb A a b v cy co w0 w F hs hA hok hv
 ·exact rfLearn2 pb A a b v cy co w0 w F hs hA hok hv
 ·exact rfLearn3 pb A a b v cy co w0 w F hs hA hok hv
 ·exact rfLearn4 pb A a b v cy co w0 w F hs hA hok hv
 ·exact rfLearn5 pb A a b v cy co w0 w F hs hA hok hv
 ·exact rfLearn6 pb A a b v cy co w0 w F hs hA hok hv
 ·exact rfLearn7 pb A a b v cy co w0 w F hs hA hok hv
 ·exact rfLearn8 pb A a b v cy co w0 w F hs hA hok hv
 ·exact rfLearn9 pb A a b v cy co w0 w F hs hA hok hv
 ·exact rfLearn10 pb A a b v cy co w0 w F hs hA hok hv
 ·exact rfLearn11 pb A a b v cy co w0 w F hs hA hok hv
 ·exact rfLearn12 pb A a b v cy co w0 w F hs hA hok hv
 ·exact rfLearn13 pb A a b v cy co w0 w F hs hA hok hv
 ·exact rfLearn14 pb A a b v cy co w0 w F hs hA hok hv
 ·exact rfLearn15 pb A a b v cy co w0 w F hs hA hok hv
 ·exact rfLearn16 pb A a b v cy co w0 w F hs hA hok hv
 ·exact rfLearn17 pb A a b v cy co w0 w F hs hA hok hv
 ·exact rfLearn18 pb A a b v cy co w0 w F hs hA hok hv
 ·exact rfLearn19 pb A a b v cy co w0 w F hs hA hok hv
 ·exact rfLearn20 pb A a b v cy co w0 w F hs hA hok hv
 ·exact rfLearn21 pb A a b v cy co w0 w F hs hA hok hv
 ·exact rfLearn22 pb A a b v cy co w0 w F hs hA hok hv
 ·exact rfLearn23 pb A a b v cy co w0 w F hs hA hok hv
 ·exact rfLearn24 pb A a b v cy co w0 w F hs hA hok hv
def Nr (w0:World) (pb:Nat) (A:Au) (e:Ev) (F:HP) (en:Ending) (w':World):Prop :=
 en=.returned (.bool (keepsR A e))∧(keepsR A e=true→Sat w0 w' (rfP pb (stepA A e)*F))∧(keepsR A e=false→Sat w0 w' (pts pb 63 [.int .i64 A.seen,.bool true]*(F*any)))
section
variable {w0 w':World} {pb:Nat} {A:Au} {e:Ev} {F:HP}
theorem nr_no (hr:keepsR A e=false) (hs:Sat w0 w' (pts pb 63 [.int .i64 A.seen,.bool true]*(F*any))):Nr w0 pb A e F (.returned (.bool false)) w' :=
 ⟨by rw [hr],fun h=>(by rw [hr] at h;cases h),fun _=>hs⟩
theorem nr_yes (hr:keepsR A e=true) (hs:Sat w0 w' (rfP pb (stepA A e)*F)):Nr w0 pb A e F (.returned (.bool true)) w' :=
 ⟨by rw [hr],fun _=>hs,fun h=>(by rw [hr] at h;cases h)⟩
end
theorem rfNext_ev (pb:Nat) (A:Au) (k:Int) (cy co:Int) (a b v:Nat) (w0 w:World) (F:HP) (hs:Sat w0 w (rfP pb A*F)) (hA:AOk A) (dk:Int) (da db:Nat) (hd:A.due=⟨dk,da,db⟩) (hno:okE ⟨k,cy,co,a,b,v⟩=false) :
  Calls Tryz.prog 40 #[.pointer (some ⟨pb,0,none⟩),evV ⟨k,cy,co,a,b,v⟩] w (Nr w0 pb A ⟨k,cy,co,a,b,v⟩ F):=by
 have Hk:Hid (keepsR A ⟨k,cy,co,a,b,v⟩=false):=by unfold Hid keepsR inTime;rw [hno];rfl
 obtain ⟨g,off,cap,c1,c2,hs⟩:=rfP_out hA hs;rw [hd] at hs;unfold evV;dsimp only;dsimp only [duEv,evCells] at hs;have Hno:=hid hno;clear hno hd
 by_cases q0:dk=0
 ·subst q0
  go_enter Tryz.func40,Tryz.ntmps40
  go_wp2_with fail;refine wp_gen (w0:=w0) ?_;intro wx hsx;refine wp_region_early (fun w'=>Sat w0 w' (pts w.heap.size 0 [.int .i64 k,.int .u64 cy,.int .u64 co,.int .u32 a,.int .u32 b,.int .u32 v]*(pts pb 51 [.int .i64 A.last.k,.int .u64 A.last.cy,.int .u64 A.last.co,.int .u32 A.last.a,.int .u32 A.last.b,.int .u32 A.last.v]*(pts (w.heap.size+1) 0 [.int .i64 0,.int .u64 0,.int .u64 0,.int .u32 da,.int .u32 db,.int .u32 0]*any)))) [(0,true),(1,false),(2,true),(3,true),(4,true),(5,true),(6,true),(7,true),(8,true),(9,true),(10,true),(11,true),(12,true),(13,true),(14,true),(15,true),(16,true),(17,true),(18,true),(19,true),(20,true),(21,true),(22,true),(23,true),(24,true),(25,true),(26,true),(27,true),(28,true),(29,true),(30,true),(31,true),(32,true),(33,true),(34,true),(35,true),(36,true),(37,true),(38,true),(39,true),(40,true),(41,true),(42,true),(43,true),(44,false),(45,true),(46,true)] (by kernel_rfl) (by kernel_rfl) (fun _ _ _ _ h=>h) own_any3 ?_
  iterate 1 (first | refine early_S ?_ | refine early_N ?_)
  refine early_G rfl (by rfl) (fun K hK=>?_);go_wp2_with fail;refine (rfCheck k cy co a b v w0 _ _).mono ?_;rintro en w1 ⟨n,rfl,hn,hs1⟩;have hn0:(n != 0)=true:=by
   rw [Hno.out] at hn;simp at hn;simp [hn]
  clear hn;go_wp2_with fail;refine ⟨own_any3,?_⟩
  iterate 42 (first | refine early_S ?_ | refine early_N ?_)
  refine early_run (fun K hK=>?_);simp only [zqS,zqZ];rw [if_neg (ne_true_of_eq_false (by rfl))];refine hK _ _ ⟨own_any3,?_⟩;clear hK K;simp only [Act.put,zqA,zqP,zqQ]
  iterate 2 (first | refine early_S ?_ | refine early_N ?_)
  refine early_done ?_;clear hs hsx;go_wp2_with fail;go_ret;exact nr_no Hk.out own_left
 ·have g0:(dk != 0)=true:=by simp [q0]
  clear q0
  by_cases q1:dk=k
  ·subst q1
   by_cases q2:da=a
   ·subst q2
    go_enter Tryz.func40,Tryz.ntmps40
    go_wp2_with fail;refine wp_gen (w0:=w0) ?_;intro wx hsx;refine wp_region_early (fun w'=>Sat w0 w' (pts w.heap.size 0 [.int .i64 dk,.int .u64 cy,.int .u64 co,.int .u32 da,.int .u32 b,.int .u32 v]*(pts pb 51 [.int .i64 A.last.k,.int .u64 A.last.cy,.int .u64 A.last.co,.int .u32 A.last.a,.int .u32 A.last.b,.int .u32 A.last.v]*(pts (w.heap.size+1) 0 [.int .i64 dk,.int .u64 0,.int .u64 0,.int .u32 da,.int .u32 db,.int .u32 0]*any)))) [(0,true),(1,false),(2,true),(3,true),(4,true),(5,true),(6,true),(7,true),(8,true),(9,true),(10,true),(11,true),(12,true),(13,true),(14,true),(15,true),(16,true),(17,true),(18,true),(19,true),(20,true),(21,true),(22,true),(23,true),(24,true),(25,true),(26,true),(27,true),(28,true),(29,true),(30,true),(31,true),(32,true),(33,true),(34,true),(35,true),(36,true),(37,true),(38,true),(39,true),(40,true),(41,true),(42,true),(43,true),(44,false),(45,true),(46,true)] (by kernel_rfl) (by kernel_rfl) (fun _ _ _ _ h=>h) own_any3 ?_
    iterate 1 (first | refine early_S ?_ | refine early_N ?_)
    refine early_G rfl (by rfl) (fun K hK=>?_);go_wp2_with fail;refine (rfCheck dk cy co da b v w0 _ _).mono ?_;rintro en w1 ⟨n,rfl,hn,hs1⟩;have hn0:(n != 0)=true:=by
     rw [Hno.out] at hn;simp at hn;simp [hn]
    clear hn;go_wp2_with fail;refine ⟨own_any3,?_⟩
    iterate 42 (first | refine early_S ?_ | refine early_N ?_)
    refine early_run (fun K hK=>?_);simp only [zqS,zqZ];rw [if_neg (ne_true_of_eq_false (by rfl))];refine hK _ _ ⟨own_any3,?_⟩;clear hK K;simp only [Act.put,zqA,zqP,zqQ]
    iterate 2 (first | refine early_S ?_ | refine early_N ?_)
    refine early_done ?_;clear hs hsx;go_wp2_with fail;go_ret;exact nr_no Hk.out own_left
   ·have g2:((a:Int)==(da:Int))=false:=by simp;omega
    clear q2
    go_enter Tryz.func40,Tryz.ntmps40
    go_wp2_with fail;refine wp_gen (w0:=w0) ?_;intro wx hsx;refine wp_region_early (fun w'=>Sat w0 w' (pts w.heap.size 0 [.int .i64 dk,.int .u64 cy,.int .u64 co,.int .u32 a,.int .u32 b,.int .u32 v]*(pts pb 51 [.int .i64 A.last.k,.int .u64 A.last.cy,.int .u64 A.last.co,.int .u32 A.last.a,.int .u32 A.last.b,.int .u32 A.last.v]*(pts (w.heap.size+1) 0 [.int .i64 dk,.int .u64 0,.int .u64 0,.int .u32 da,.int .u32 db,.int .u32 0]*any)))) [(0,true),(1,false),(2,true),(3,true),(4,true),(5,true),(6,true),(7,true),(8,true),(9,true),(10,true),(11,true),(12,true),(13,true),(14,true),(15,true),(16,true),(17,true),(18,true),(19,true),(20,true),(21,true),(22,true),(23,true),(24,true),(25,true),(26,true),(27,true),(28,true),(29,true),(30,true),(31,true),(32,true),(33,true),(34,true),(35,true),(36,true),(37,true),(38,true),(39,true),(40,true),(41,true),(42,true),(43,true),(44,false),(45,true),(46,true)] (by kernel_rfl) (by kernel_rfl) (fun _ _ _ _ h=>h) own_any3 ?_
    iterate 1 (first | refine early_S ?_ | refine early_N ?_)
    refine early_G rfl (by rfl) (fun K hK=>?_);go_wp2_with fail;refine (rfCheck dk cy co a b v w0 _ _).mono ?_;rintro en w1 ⟨n,rfl,hn,hs1⟩;have hn0:(n != 0)=true:=by
     rw [Hno.out] at hn;simp at hn;simp [hn]
    clear hn;go_wp2_with fail;refine ⟨own_any3,?_⟩
    iterate 42 (first | refine early_S ?_ | refine early_N ?_)
    refine early_run (fun K hK=>?_);simp only [zqS,zqZ];rw [if_neg (ne_true_of_eq_false (by rfl))];refine hK _ _ ⟨own_any3,?_⟩;clear hK K;simp only [Act.put,zqA,zqP,zqQ]
    iterate 2 (first | refine early_S ?_ | refine early_N ?_)
    refine early_done ?_;clear hs hsx;go_wp2_with fail;go_ret;exact nr_no Hk.out own_left
  ·have g1:(k==dk)=false:=by simp;omega
   clear q1
   go_enter Tryz.func40,Tryz.ntmps40
   go_wp2_with fail;refine wp_gen (w0:=w0) ?_;intro wx hsx;refine wp_region_early (fun w'=>Sat w0 w' (pts w.heap.size 0 [.int .i64 k,.int .u64 cy,.int .u64 co,.int .u32 a,.int .u32 b,.int .u32 v]*(pts pb 51 [.int .i64 A.last.k,.int .u64 A.last.cy,.int .u64 A.last.co,.int .u32 A.last.a,.int .u32 A.last.b,.int .u32 A.last.v]*(pts (w.heap.size+1) 0 [.int .i64 dk,.int .u64 0,.int .u64 0,.int .u32 da,.int .u32 db,.int .u32 0]*any)))) [(0,true),(1,false),(2,true),(3,true),(4,true),(5,true),(6,true),(7,true),(8,true),(9,true),(10,true),(11,true),(12,true),(13,true),(14,true),(15,true),(16,true),(17,true),(18,true),(19,true),(20,true),(21,true),(22,true),(23,true),(24,true),(25,true),(26,true),(27,true),(28,true),(29,true),(30,true),(31,true),(32,true),(33,true),(34,true),(35,true),(36,true),(37,true),(38,true),(39,true),(40,true),(41,true),(42,true),(43,true),(44,false),(45,true),(46,true)] (by kernel_rfl) (by kernel_rfl) (fun _ _ _ _ h=>h) own_any3 ?_
   iterate 1 (first | refine early_S ?_ | refine early_N ?_)
   refine early_G rfl (by rfl) (fun K hK=>?_);go_wp2_with fail;refine (rfCheck k cy co a b v w0 _ _).mono ?_;rintro en w1 ⟨n,rfl,hn,hs1⟩;have hn0:(n != 0)=true:=by
    rw [Hno.out] at hn;simp at hn;simp [hn]
   clear hn;go_wp2_with fail;refine ⟨own_any3,?_⟩
   iterate 42 (first | refine early_S ?_ | refine early_N ?_)
   refine early_run (fun K hK=>?_);simp only [zqS,zqZ];rw [if_neg (ne_true_of_eq_false (by rfl))];refine hK _ _ ⟨own_any3,?_⟩;clear hK K;simp only [Act.put,zqA,zqP,zqQ]
   iterate 2 (first | refine early_S ?_ | refine early_N ?_)
   refine early_done ?_;clear hs hsx;go_wp2_with fail;go_ret;exact nr_no Hk.out own_left
theorem rfNext_close (pb:Nat) (A:Au) (k:Int) (cy co:Int) (a b v:Nat) (w0 w:World) (F:HP) (hs:Sat w0 w (rfP pb A*F)) (hA:AOk A) (dk:Int) (da db:Nat) (hd:A.due=⟨dk,da,db⟩) (hno:okE ⟨k,cy,co,a,b,v⟩=true) (h1:A.last.k=24) :
  Calls Tryz.prog 40 #[.pointer (some ⟨pb,0,none⟩),evV ⟨k,cy,co,a,b,v⟩] w (Nr w0 pb A ⟨k,cy,co,a,b,v⟩ F):=by
 have Hk:Hid (keepsR A ⟨k,cy,co,a,b,v⟩=false):=by unfold Hid keepsR inTime;simp [h1]
 obtain ⟨g,off,cap,c1,c2,hs⟩:=rfP_out hA hs;rw [hd] at hs;unfold evV;dsimp only;dsimp only [duEv,evCells] at hs;have Hno:=hid hno;have d1:(A.last.k==24)=true:=by simp [h1]
 clear hno h1 hd
 by_cases q0:dk=0
 ·subst q0
  go_enter Tryz.func40,Tryz.ntmps40
  go_wp2_with fail;refine wp_gen (w0:=w0) ?_;intro wx hsx;refine wp_region_early (fun w'=>Sat w0 w' (pts w.heap.size 0 [.int .i64 k,.int .u64 cy,.int .u64 co,.int .u32 a,.int .u32 b,.int .u32 v]*(pts pb 51 [.int .i64 A.last.k,.int .u64 A.last.cy,.int .u64 A.last.co,.int .u32 A.last.a,.int .u32 A.last.b,.int .u32 A.last.v]*(pts (w.heap.size+1) 0 [.int .i64 0,.int .u64 0,.int .u64 0,.int .u32 da,.int .u32 db,.int .u32 0]*any)))) [(0,true),(1,false),(2,true),(3,true),(4,true),(5,true),(6,true),(7,true),(8,true),(9,true),(10,true),(11,true),(12,true),(13,true),(14,true),(15,true),(16,true),(17,true),(18,true),(19,true),(20,true),(21,true),(22,true),(23,true),(24,true),(25,true),(26,true),(27,true),(28,true),(29,true),(30,true),(31,true),(32,true),(33,true),(34,true),(35,true),(36,true),(37,true),(38,true),(39,true),(40,true),(41,true),(42,true),(43,true),(44,false),(45,true),(46,true)] (by kernel_rfl) (by kernel_rfl) (fun _ _ _ _ h=>h) own_any3 ?_
  iterate 1 (first | refine early_S ?_ | refine early_N ?_)
  refine early_G rfl (by rfl) (fun K hK=>?_);go_wp2_with fail;refine (rfCheck k cy co a b v w0 _ _).mono ?_;rintro en w1 ⟨n,rfl,hn,hs1⟩;obtain rfl:n=0:=hn.2 Hno.out;clear hn;go_wp2_with fail;refine ⟨own_any3,?_⟩
  iterate 42 (first | refine early_S ?_ | refine early_N ?_)
  refine early_run (fun K hK=>?_);simp only [zqS,zqZ];rw [if_neg (ne_true_of_eq_false (by rfl))];refine hK _ _ ⟨own_any3,?_⟩;clear hK K;simp only [Act.put,zqA,zqP,zqQ]
  iterate 2 (first | refine early_S ?_ | refine early_N ?_)
  refine early_done ?_;clear hs hsx;go_wp2_with fail;go_ret;exact nr_no Hk.out own_left
 ·have g0:(dk != 0)=true:=by simp [q0]
  clear q0
  by_cases q1:dk=k
  ·subst q1
   by_cases q2:da=a
   ·subst q2
    go_enter Tryz.func40,Tryz.ntmps40
    go_wp2_with fail;refine wp_gen (w0:=w0) ?_;intro wx hsx;refine wp_region_early (fun w'=>Sat w0 w' (pts w.heap.size 0 [.int .i64 dk,.int .u64 cy,.int .u64 co,.int .u32 da,.int .u32 b,.int .u32 v]*(pts pb 51 [.int .i64 A.last.k,.int .u64 A.last.cy,.int .u64 A.last.co,.int .u32 A.last.a,.int .u32 A.last.b,.int .u32 A.last.v]*(pts (w.heap.size+1) 0 [.int .i64 dk,.int .u64 0,.int .u64 0,.int .u32 da,.int .u32 db,.int .u32 0]*any)))) [(0,true),(1,false),(2,true),(3,true),(4,true),(5,true),(6,true),(7,true),(8,true),(9,true),(10,true),(11,true),(12,true),(13,true),(14,true),(15,true),(16,true),(17,true),(18,true),(19,true),(20,true),(21,true),(22,true),(23,true),(24,true),(25,true),(26,true),(27,true),(28,true),(29,true),(30,true),(31,true),(32,true),(33,true),(34,true),(35,true),(36,true),(37,true),(38,true),(39,true),(40,true),(41,true),(42,true),(43,true),(44,false),(45,true),(46,true)] (by kernel_rfl) (by kernel_rfl) (fun _ _ _ _ h=>h) own_any3 ?_
    iterate 1 (first | refine early_S ?_ | refine early_N ?_)
    refine early_G rfl (by rfl) (fun K hK=>?_);go_wp2_with fail;refine (rfCheck dk cy co da b v w0 _ _).mono ?_;rintro en w1 ⟨n,rfl,hn,hs1⟩;obtain rfl:n=0:=hn.2 Hno.out;clear hn;go_wp2_with fail;refine ⟨own_any3,?_⟩
    iterate 42 (first | refine early_S ?_ | refine early_N ?_)
    refine early_run (fun K hK=>?_);simp only [zqS,zqZ];rw [if_neg (ne_true_of_eq_false (by rfl))];refine hK _ _ ⟨own_any3,?_⟩;clear hK K;simp only [Act.put,zqA,zqP,zqQ]
    iterate 2 (first | refine early_S ?_ | refine early_N ?_)
    refine early_done ?_;clear hs hsx;go_wp2_with fail;go_ret;exact nr_no Hk.out own_left
   ·have g2:((a:Int)==(da:Int))=false:=by simp;omega
    clear q2
    go_enter Tryz.func40,Tryz.ntmps40
    go_wp2_with fail;refine wp_gen (w0:=w0) ?_;intro wx hsx;refine wp_region_early (fun w'=>Sat w0 w' (pts w.heap.size 0 [.int .i64 dk,.int .u64 cy,.int .u64 co,.int .u32 a,.int .u32 b,.int .u32 v]*(pts pb 51 [.int .i64 A.last.k,.int .u64 A.last.cy,.int .u64 A.last.co,.int .u32 A.last.a,.int .u32 A.last.b,.int .u32 A.last.v]*(pts (w.heap.size+1) 0 [.int .i64 dk,.int .u64 0,.int .u64 0,.int .u32 da,.int .u32 db,.int .u32 0]*any)))) [(0,true),(1,false),(2,true),(3,true),(4,true),(5,true),(6,true),(7,true),(8,true),(9,true),(10,true),(11,true),(12,true),(13,true),(14,true),(15,true),(16,true),(17,true),(18,true),(19,true),(20,true),(21,true),(22,true),(23,true),(24,true),(25,true),(26,true),(27,true),(28,true),(29,true),(30,true),(31,true),(32,true),(33,true),(34,true),(35,true),(36,true),(37,true),(38,true),(39,true),(40,true),(41,true),(42,true),(43,true),(44,false),(45,true),(46,true)] (by kernel_rfl) (by kernel_rfl) (fun _ _ _ _ h=>h) own_any3 ?_
    iterate 1 (first | refine early_S ?_ | refine early_N ?_)
    refine early_G rfl (by rfl) (fun K hK=>?_);go_wp2_with fail;refine (rfCheck dk cy co a b v w0 _ _).mono ?_;rintro en w1 ⟨n,rfl,hn,hs1⟩;obtain rfl:n=0:=hn.2 Hno.out;clear hn;go_wp2_with fail;refine ⟨own_any3,?_⟩
    iterate 42 (first | refine early_S ?_ | refine early_N ?_)
    refine early_run (fun K hK=>?_);simp only [zqS,zqZ];rw [if_neg (ne_true_of_eq_false (by rfl))];refine hK _ _ ⟨own_any3,?_⟩;clear hK K;simp only [Act.put,zqA,zqP,zqQ]
    iterate 2 (first | refine early_S ?_ | refine early_N ?_)
    refine early_done ?_;clear hs hsx;go_wp2_with fail;go_ret;exact nr_no Hk.out own_left
  ·have g1:(k==dk)=false:=by simp;omega
   clear q1
   go_enter Tryz.func40,Tryz.ntmps40
   go_wp2_with fail;refine wp_gen (w0:=w0) ?_;intro wx hsx;refine wp_region_early (fun w'=>Sat w0 w' (pts w.heap.size 0 [.int .i64 k,.int .u64 cy,.int .u64 co,.int .u32 a,.int .u32 b,.int .u32 v]*(pts pb 51 [.int .i64 A.last.k,.int .u64 A.last.cy,.int .u64 A.last.co,.int .u32 A.last.a,.int .u32 A.last.b,.int .u32 A.last.v]*(pts (w.heap.size+1) 0 [.int .i64 dk,.int .u64 0,.int .u64 0,.int .u32 da,.int .u32 db,.int .u32 0]*any)))) [(0,true),(1,false),(2,true),(3,true),(4,true),(5,true),(6,true),(7,true),(8,true),(9,true),(10,true),(11,true),(12,true),(13,true),(14,true),(15,true),(16,true),(17,true),(18,true),(19,true),(20,true),(21,true),(22,true),(23,true),(24,true),(25,true),(26,true),(27,true),(28,true),(29,true),(30,true),(31,true),(32,true),(33,true),(34,true),(35,true),(36,true),(37,true),(38,true),(39,true),(40,true),(41,true),(42,true),(43,true),(44,false),(45,true),(46,true)] (by kernel_rfl) (by kernel_rfl) (fun _ _ _ _ h=>h) own_any3 ?_
   iterate 1 (first | refine early_S ?_ | refine early_N ?_)
   refine early_G rfl (by rfl) (fun K hK=>?_);go_wp2_with fail;refine (rfCheck k cy co a b v w0 _ _).mono ?_;rintro en w1 ⟨n,rfl,hn,hs1⟩;obtain rfl:n=0:=hn.2 Hno.out;clear hn;go_wp2_with fail;refine ⟨own_any3,?_⟩
   iterate 42 (first | refine early_S ?_ | refine early_N ?_)
   refine early_run (fun K hK=>?_);simp only [zqS,zqZ];rw [if_neg (ne_true_of_eq_false (by rfl))];refine hK _ _ ⟨own_any3,?_⟩;clear hK K;simp only [Act.put,zqA,zqP,zqQ]
   iterate 2 (first | refine early_S ?_ | refine early_N ?_)
   refine early_done ?_;clear hs hsx;go_wp2_with fail;go_ret;exact nr_no Hk.out own_left
theorem rfNext_co (pb:Nat) (A:Au) (k:Int) (cy co:Int) (a b v:Nat) (w0 w:World) (F:HP) (hs:Sat w0 w (rfP pb A*F)) (hA:AOk A) (dk:Int) (da db:Nat) (hd:A.due=⟨dk,da,db⟩) (hno:okE ⟨k,cy,co,a,b,v⟩=true) (h1:A.last.k≠24) (h2:¬ A.last.co≤co) :
  Calls Tryz.prog 40 #[.pointer (some ⟨pb,0,none⟩),evV ⟨k,cy,co,a,b,v⟩] w (Nr w0 pb A ⟨k,cy,co,a,b,v⟩ F):=by
 have Hk:Hid (keepsR A ⟨k,cy,co,a,b,v⟩=false):=by unfold Hid keepsR inTime;simp [h2]
 obtain ⟨g,off,cap,c1,c2,hs⟩:=rfP_out hA hs;rw [hd] at hs;unfold evV;dsimp only;dsimp only [duEv,evCells] at hs;have Hno:=hid hno;have d1:(A.last.k==24)=false:=by simp [h1]
 have d2:decide (co<A.last.co)=true:=by simp;omega
 clear hno h1 h2 hd
 by_cases q0:dk=0
 ·subst q0
  go_enter Tryz.func40,Tryz.ntmps40
  go_wp2_with fail;refine wp_gen (w0:=w0) ?_;intro wx hsx;refine wp_region_early (fun w'=>Sat w0 w' (pts w.heap.size 0 [.int .i64 k,.int .u64 cy,.int .u64 co,.int .u32 a,.int .u32 b,.int .u32 v]*(pts pb 51 [.int .i64 A.last.k,.int .u64 A.last.cy,.int .u64 A.last.co,.int .u32 A.last.a,.int .u32 A.last.b,.int .u32 A.last.v]*(pts (w.heap.size+1) 0 [.int .i64 0,.int .u64 0,.int .u64 0,.int .u32 da,.int .u32 db,.int .u32 0]*any)))) [(0,true),(1,false),(2,true),(3,true),(4,true),(5,true),(6,true),(7,true),(8,true),(9,true),(10,true),(11,true),(12,true),(13,true),(14,true),(15,true),(16,true),(17,true),(18,true),(19,true),(20,true),(21,true),(22,true),(23,true),(24,true),(25,true),(26,true),(27,true),(28,true),(29,true),(30,true),(31,true),(32,true),(33,true),(34,true),(35,true),(36,true),(37,true),(38,true),(39,true),(40,true),(41,true),(42,true),(43,true),(44,false),(45,true),(46,true)] (by kernel_rfl) (by kernel_rfl) (fun _ _ _ _ h=>h) own_any3 ?_
  iterate 1 (first | refine early_S ?_ | refine early_N ?_)
  refine early_G rfl (by rfl) (fun K hK=>?_);go_wp2_with fail;refine (rfCheck k cy co a b v w0 _ _).mono ?_;rintro en w1 ⟨n,rfl,hn,hs1⟩;obtain rfl:n=0:=hn.2 Hno.out;clear hn;go_wp2_with fail;refine ⟨own_any3,?_⟩
  iterate 42 (first | refine early_S ?_ | refine early_N ?_)
  refine early_run (fun K hK=>?_);simp only [zqS,zqZ];rw [if_neg (ne_true_of_eq_false (by rfl))];refine hK _ _ ⟨own_any3,?_⟩;clear hK K;simp only [Act.put,zqA,zqP,zqQ]
  iterate 2 (first | refine early_S ?_ | refine early_N ?_)
  refine early_done ?_;clear hs hsx;go_wp2_with fail;go_ret;exact nr_no Hk.out own_left
 ·have g0:(dk != 0)=true:=by simp [q0]
  clear q0
  by_cases q1:dk=k
  ·subst q1
   by_cases q2:da=a
   ·subst q2
    go_enter Tryz.func40,Tryz.ntmps40
    go_wp2_with fail;refine wp_gen (w0:=w0) ?_;intro wx hsx;refine wp_region_early (fun w'=>Sat w0 w' (pts w.heap.size 0 [.int .i64 dk,.int .u64 cy,.int .u64 co,.int .u32 da,.int .u32 b,.int .u32 v]*(pts pb 51 [.int .i64 A.last.k,.int .u64 A.last.cy,.int .u64 A.last.co,.int .u32 A.last.a,.int .u32 A.last.b,.int .u32 A.last.v]*(pts (w.heap.size+1) 0 [.int .i64 dk,.int .u64 0,.int .u64 0,.int .u32 da,.int .u32 db,.int .u32 0]*any)))) [(0,true),(1,false),(2,true),(3,true),(4,true),(5,true),(6,true),(7,true),(8,true),(9,true),(10,true),(11,true),(12,true),(13,true),(14,true),(15,true),(16,true),(17,true),(18,true),(19,true),(20,true),(21,true),(22,true),(23,true),(24,true),(25,true),(26,true),(27,true),(28,true),(29,true),(30,true),(31,true),(32,true),(33,true),(34,true),(35,true),(36,true),(37,true),(38,true),(39,true),(40,true),(41,true),(42,true),(43,true),(44,false),(45,true),(46,true)] (by kernel_rfl) (by kernel_rfl) (fun _ _ _ _ h=>h) own_any3 ?_
    iterate 1 (first | refine early_S ?_ | refine early_N ?_)
    refine early_G rfl (by rfl) (fun K hK=>?_);go_wp2_with fail;refine (rfCheck dk cy co da b v w0 _ _).mono ?_;rintro en w1 ⟨n,rfl,hn,hs1⟩;obtain rfl:n=0:=hn.2 Hno.out;clear hn;go_wp2_with fail;refine ⟨own_any3,?_⟩
    iterate 42 (first | refine early_S ?_ | refine early_N ?_)
    refine early_run (fun K hK=>?_);simp only [zqS,zqZ];rw [if_neg (ne_true_of_eq_false (by rfl))];refine hK _ _ ⟨own_any3,?_⟩;clear hK K;simp only [Act.put,zqA,zqP,zqQ]
    iterate 2 (first | refine early_S ?_ | refine early_N ?_)
    refine early_done ?_;clear hs hsx;go_wp2_with fail;go_ret;exact nr_no Hk.out own_left
   ·have g2:((a:Int)==(da:Int))=false:=by simp;omega
    clear q2
    go_enter Tryz.func40,Tryz.ntmps40
    go_wp2_with fail;refine wp_gen (w0:=w0) ?_;intro wx hsx;refine wp_region_early (fun w'=>Sat w0 w' (pts w.heap.size 0 [.int .i64 dk,.int .u64 cy,.int .u64 co,.int .u32 a,.int .u32 b,.int .u32 v]*(pts pb 51 [.int .i64 A.last.k,.int .u64 A.last.cy,.int .u64 A.last.co,.int .u32 A.last.a,.int .u32 A.last.b,.int .u32 A.last.v]*(pts (w.heap.size+1) 0 [.int .i64 dk,.int .u64 0,.int .u64 0,.int .u32 da,.int .u32 db,.int .u32 0]*any)))) [(0,true),(1,false),(2,true),(3,true),(4,true),(5,true),(6,true),(7,true),(8,true),(9,true),(10,true),(11,true),(12,true),(13,true),(14,true),(15,true),(16,true),(17,true),(18,true),(19,true),(20,true),(21,true),(22,true),(23,true),(24,true),(25,true),(26,true),(27,true),(28,true),(29,true),(30,true),(31,true),(32,true),(33,true),(34,true),(35,true),(36,true),(37,true),(38,true),(39,true),(40,true),(41,true),(42,true),(43,true),(44,false),(45,true),(46,true)] (by kernel_rfl) (by kernel_rfl) (fun _ _ _ _ h=>h) own_any3 ?_
    iterate 1 (first | refine early_S ?_ | refine early_N ?_)
    refine early_G rfl (by rfl) (fun K hK=>?_);go_wp2_with fail;refine (rfCheck dk cy co a b v w0 _ _).mono ?_;rintro en w1 ⟨n,rfl,hn,hs1⟩;obtain rfl:n=0:=hn.2 Hno.out;clear hn;go_wp2_with fail;refine ⟨own_any3,?_⟩
    iterate 42 (first | refine early_S ?_ | refine early_N ?_)
    refine early_run (fun K hK=>?_);simp only [zqS,zqZ];rw [if_neg (ne_true_of_eq_false (by rfl))];refine hK _ _ ⟨own_any3,?_⟩;clear hK K;simp only [Act.put,zqA,zqP,zqQ]
    iterate 2 (first | refine early_S ?_ | refine early_N ?_)
    refine early_done ?_;clear hs hsx;go_wp2_with fail;go_ret;exact nr_no Hk.out own_left
  ·have g1:(k==dk)=false:=by simp;omega
   clear q1
   go_enter Tryz.func40,Tryz.ntmps40
   go_wp2_with fail;refine wp_gen (w0:=w0) ?_;intro wx hsx;refine wp_region_early (fun w'=>Sat w0 w' (pts w.heap.size 0 [.int .i64 k,.int .u64 cy,.int .u64 co,.int .u32 a,.int .u32 b,.int .u32 v]*(pts pb 51 [.int .i64 A.last.k,.int .u64 A.last.cy,.int .u64 A.last.co,.int .u32 A.last.a,.int .u32 A.last.b,.int .u32 A.last.v]*(pts (w.heap.size+1) 0 [.int .i64 dk,.int .u64 0,.int .u64 0,.int .u32 da,.int .u32 db,.int .u32 0]*any)))) [(0,true),(1,false),(2,true),(3,true),(4,true),(5,true),(6,true),(7,true),(8,true),(9,true),(10,true),(11,true),(12,true),(13,true),(14,true),(15,true),(16,true),(17,true),(18,true),(19,true),(20,true),(21,true),(22,true),(23,true),(24,true),(25,true),(26,true),(27,true),(28,true),(29,true),(30,true),(31,true),(32,true),(33,true),(34,true),(35,true),(36,true),(37,true),(38,true),(39,true),(40,true),(41,true),(42,true),(43,true),(44,false),(45,true),(46,true)] (by kernel_rfl) (by kernel_rfl) (fun _ _ _ _ h=>h) own_any3 ?_
   iterate 1 (first | refine early_S ?_ | refine early_N ?_)
   refine early_G rfl (by rfl) (fun K hK=>?_);go_wp2_with fail;refine (rfCheck k cy co a b v w0 _ _).mono ?_;rintro en w1 ⟨n,rfl,hn,hs1⟩;obtain rfl:n=0:=hn.2 Hno.out;clear hn;go_wp2_with fail;refine ⟨own_any3,?_⟩
   iterate 42 (first | refine early_S ?_ | refine early_N ?_)
   refine early_run (fun K hK=>?_);simp only [zqS,zqZ];rw [if_neg (ne_true_of_eq_false (by rfl))];refine hK _ _ ⟨own_any3,?_⟩;clear hK K;simp only [Act.put,zqA,zqP,zqQ]
   iterate 2 (first | refine early_S ?_ | refine early_N ?_)
   refine early_done ?_;clear hs hsx;go_wp2_with fail;go_ret;exact nr_no Hk.out own_left
theorem rfNext_cy (pb:Nat) (A:Au) (k:Int) (cy co:Int) (a b v:Nat) (w0 w:World) (F:HP) (hs:Sat w0 w (rfP pb A*F)) (hA:AOk A) (dk:Int) (da db:Nat) (hd:A.due=⟨dk,da,db⟩) (hno:okE ⟨k,cy,co,a,b,v⟩=true) (h1:A.last.k≠24) (h2:A.last.co≤co) (h3:¬ A.last.cy≤cy) :
  Calls Tryz.prog 40 #[.pointer (some ⟨pb,0,none⟩),evV ⟨k,cy,co,a,b,v⟩] w (Nr w0 pb A ⟨k,cy,co,a,b,v⟩ F):=by
 have Hk:Hid (keepsR A ⟨k,cy,co,a,b,v⟩=false):=by unfold Hid keepsR inTime;simp [h3]
 obtain ⟨g,off,cap,c1,c2,hs⟩:=rfP_out hA hs;rw [hd] at hs;unfold evV;dsimp only;dsimp only [duEv,evCells] at hs;have Hno:=hid hno;have d1:(A.last.k==24)=false:=by simp [h1]
 have d2:decide (co<A.last.co)=false:=by simp;omega
 have d3:decide (cy<A.last.cy)=true:=by simp;omega
 clear hno h1 h2 h3 hd
 by_cases q0:dk=0
 ·subst q0
  go_enter Tryz.func40,Tryz.ntmps40
  go_wp2_with fail;refine wp_gen (w0:=w0) ?_;intro wx hsx;refine wp_region_early (fun w'=>Sat w0 w' (pts w.heap.size 0 [.int .i64 k,.int .u64 cy,.int .u64 co,.int .u32 a,.int .u32 b,.int .u32 v]*(pts pb 51 [.int .i64 A.last.k,.int .u64 A.last.cy,.int .u64 A.last.co,.int .u32 A.last.a,.int .u32 A.last.b,.int .u32 A.last.v]*(pts (w.heap.size+1) 0 [.int .i64 0,.int .u64 0,.int .u64 0,.int .u32 da,.int .u32 db,.int .u32 0]*any)))) [(0,true),(1,false),(2,true),(3,true),(4,true),(5,true),(6,true),(7,true),(8,true),(9,true),(10,true),(11,true),(12,true),(13,true),(14,true),(15,true),(16,true),(17,true),(18,true),(19,true),(20,true),(21,true),(22,true),(23,true),(24,true),(25,true),(26,true),(27,true),(28,true),(29,true),(30,true),(31,true),(32,true),(33,true),(34,true),(35,true),(36,true),(37,true),(38,true),(39,true),(40,true),(41,true),(42,true),(43,true),(44,false),(45,true),(46,true)] (by kernel_rfl) (by kernel_rfl) (fun _ _ _ _ h=>h) own_any3 ?_
  iterate 1 (first | refine early_S ?_ | refine early_N ?_)
  refine early_G rfl (by rfl) (fun K hK=>?_);go_wp2_with fail;refine (rfCheck k cy co a b v w0 _ _).mono ?_;rintro en w1 ⟨n,rfl,hn,hs1⟩;obtain rfl:n=0:=hn.2 Hno.out;clear hn;go_wp2_with fail;refine ⟨own_any3,?_⟩
  iterate 42 (first | refine early_S ?_ | refine early_N ?_)
  refine early_run (fun K hK=>?_);simp only [zqS,zqZ];rw [if_neg (ne_true_of_eq_false (by rfl))];refine hK _ _ ⟨own_any3,?_⟩;clear hK K;simp only [Act.put,zqA,zqP,zqQ]
  iterate 2 (first | refine early_S ?_ | refine early_N ?_)
  refine early_done ?_;clear hs hsx;go_wp2_with fail;go_ret;exact nr_no Hk.out own_left
 ·have g0:(dk != 0)=true:=by simp [q0]
  clear q0
  by_cases q1:dk=k
  ·subst q1
   by_cases q2:da=a
   ·subst q2
    go_enter Tryz.func40,Tryz.ntmps40
    go_wp2_with fail;refine wp_gen (w0:=w0) ?_;intro wx hsx;refine wp_region_early (fun w'=>Sat w0 w' (pts w.heap.size 0 [.int .i64 dk,.int .u64 cy,.int .u64 co,.int .u32 da,.int .u32 b,.int .u32 v]*(pts pb 51 [.int .i64 A.last.k,.int .u64 A.last.cy,.int .u64 A.last.co,.int .u32 A.last.a,.int .u32 A.last.b,.int .u32 A.last.v]*(pts (w.heap.size+1) 0 [.int .i64 dk,.int .u64 0,.int .u64 0,.int .u32 da,.int .u32 db,.int .u32 0]*any)))) [(0,true),(1,false),(2,true),(3,true),(4,true),(5,true),(6,true),(7,true),(8,true),(9,true),(10,true),(11,true),(12,true),(13,true),(14,true),(15,true),(16,true),(17,true),(18,true),(19,true),(20,true),(21,true),(22,true),(23,true),(24,true),(25,true),(26,true),(27,true),(28,true),(29,true),(30,true),(31,true),(32,true),(33,true),(34,true),(35,true),(36,true),(37,true),(38,true),(39,true),(40,true),(41,true),(42,true),(43,true),(44,false),(45,true),(46,true)] (by kernel_rfl) (by kernel_rfl) (fun _ _ _ _ h=>h) own_any3 ?_
    iterate 1 (first | refine early_S ?_ | refine early_N ?_)
    refine early_G rfl (by rfl) (fun K hK=>?_);go_wp2_with fail;refine (rfCheck dk cy co da b v w0 _ _).mono ?_;rintro en w1 ⟨n,rfl,hn,hs1⟩;obtain rfl:n=0:=hn.2 Hno.out;clear hn;go_wp2_with fail;refine ⟨own_any3,?_⟩
    iterate 42 (first | refine early_S ?_ | refine early_N ?_)
    refine early_run (fun K hK=>?_);simp only [zqS,zqZ];rw [if_neg (ne_true_of_eq_false (by rfl))];refine hK _ _ ⟨own_any3,?_⟩;clear hK K;simp only [Act.put,zqA,zqP,zqQ]
    iterate 2 (first | refine early_S ?_ | refine early_N ?_)
    refine early_done ?_;clear hs hsx;go_wp2_with fail;go_ret;exact nr_no Hk.out own_left
   ·have g2:((a:Int)==(da:Int))=false:=by simp;omega
    clear q2
    go_enter Tryz.func40,Tryz.ntmps40
    go_wp2_with fail;refine wp_gen (w0:=w0) ?_;intro wx hsx;refine wp_region_early (fun w'=>Sat w0 w' (pts w.heap.size 0 [.int .i64 dk,.int .u64 cy,.int .u64 co,.int .u32 a,.int .u32 b,.int .u32 v]*(pts pb 51 [.int .i64 A.last.k,.int .u64 A.last.cy,.int .u64 A.last.co,.int .u32 A.last.a,.int .u32 A.last.b,.int .u32 A.last.v]*(pts (w.heap.size+1) 0 [.int .i64 dk,.int .u64 0,.int .u64 0,.int .u32 da,.int .u32 db,.int .u32 0]*any)))) [(0,true),(1,false),(2,true),(3,true),(4,true),(5,true),(6,true),(7,true),(8,true),(9,true),(10,true),(11,true),(12,true),(13,true),(14,true),(15,true),(16,true),(17,true),(18,true),(19,true),(20,true),(21,true),(22,true),(23,true),(24,true),(25,true),(26,true),(27,true),(28,true),(29,true),(30,true),(31,true),(32,true),(33,true),(34,true),(35,true),(36,true),(37,true),(38,true),(39,true),(40,true),(41,true),(42,true),(43,true),(44,false),(45,true),(46,true)] (by kernel_rfl) (by kernel_rfl) (fun _ _ _ _ h=>h) own_any3 ?_
    iterate 1 (first | refine early_S ?_ | refine early_N ?_)
    refine early_G rfl (by rfl) (fun K hK=>?_);go_wp2_with fail;refine (rfCheck dk cy co a b v w0 _ _).mono ?_;rintro en w1 ⟨n,rfl,hn,hs1⟩;obtain rfl:n=0:=hn.2 Hno.out;clear hn;go_wp2_with fail;refine ⟨own_any3,?_⟩
    iterate 42 (first | refine early_S ?_ | refine early_N ?_)
    refine early_run (fun K hK=>?_);simp only [zqS,zqZ];rw [if_neg (ne_true_of_eq_false (by rfl))];refine hK _ _ ⟨own_any3,?_⟩;clear hK K;simp only [Act.put,zqA,zqP,zqQ]
    iterate 2 (first | refine early_S ?_ | refine early_N ?_)
    refine early_done ?_;clear hs hsx;go_wp2_with fail;go_ret;exact nr_no Hk.out own_left
  ·have g1:(k==dk)=false:=by simp;omega
   clear q1
   go_enter Tryz.func40,Tryz.ntmps40
   go_wp2_with fail;refine wp_gen (w0:=w0) ?_;intro wx hsx;refine wp_region_early (fun w'=>Sat w0 w' (pts w.heap.size 0 [.int .i64 k,.int .u64 cy,.int .u64 co,.int .u32 a,.int .u32 b,.int .u32 v]*(pts pb 51 [.int .i64 A.last.k,.int .u64 A.last.cy,.int .u64 A.last.co,.int .u32 A.last.a,.int .u32 A.last.b,.int .u32 A.last.v]*(pts (w.heap.size+1) 0 [.int .i64 dk,.int .u64 0,.int .u64 0,.int .u32 da,.int .u32 db,.int .u32 0]*any)))) [(0,true),(1,false),(2,true),(3,true),(4,true),(5,true),(6,true),(7,true),(8,true),(9,true),(10,true),(11,true),(12,true),(13,true),(14,true),(15,true),(16,true),(17,true),(18,true),(19,true),(20,true),(21,true),(22,true),(23,true),(24,true),(25,true),(26,true),(27,true),(28,true),(29,true),(30,true),(31,true),(32,true),(33,true),(34,true),(35,true),(36,true),(37,true),(38,true),(39,true),(40,true),(41,true),(42,true),(43,true),(44,false),(45,true),(46,true)] (by kernel_rfl) (by kernel_rfl) (fun _ _ _ _ h=>h) own_any3 ?_
   iterate 1 (first | refine early_S ?_ | refine early_N ?_)
   refine early_G rfl (by rfl) (fun K hK=>?_);go_wp2_with fail;refine (rfCheck k cy co a b v w0 _ _).mono ?_;rintro en w1 ⟨n,rfl,hn,hs1⟩;obtain rfl:n=0:=hn.2 Hno.out;clear hn;go_wp2_with fail;refine ⟨own_any3,?_⟩
   iterate 42 (first | refine early_S ?_ | refine early_N ?_)
   refine early_run (fun K hK=>?_);simp only [zqS,zqZ];rw [if_neg (ne_true_of_eq_false (by rfl))];refine hK _ _ ⟨own_any3,?_⟩;clear hK K;simp only [Act.put,zqA,zqP,zqQ]
   iterate 2 (first | refine early_S ?_ | refine early_N ?_)
   refine early_done ?_;clear hs hsx;go_wp2_with fail;go_ret;exact nr_no Hk.out own_left
theorem rfNext_due (pb:Nat) (A:Au) (k:Int) (cy co:Int) (a b v:Nat) (w0 w:World) (F:HP) (hs:Sat w0 w (rfP pb A*F)) (hA:AOk A) (dk:Int) (da db:Nat) (hd:A.due=⟨dk,da,db⟩) (hno:okE ⟨k,cy,co,a,b,v⟩=true) (h1:A.last.k≠24) (h2:A.last.co≤co) (h3:A.last.cy≤cy) (h4:dk≠0) (h5:¬ (dk=k∧da=a∧db=b)) :
  Calls Tryz.prog 40 #[.pointer (some ⟨pb,0,none⟩),evV ⟨k,cy,co,a,b,v⟩] w (Nr w0 pb A ⟨k,cy,co,a,b,v⟩ F):=by
 have Hk:Hid (keepsR A ⟨k,cy,co,a,b,v⟩=false):=by
  have e1:A.due≠du0:=by rw [hd];intro h;exact h4 (congrArg Du.k h)
  have e2:A.due≠⟨k,a,b⟩:=by rw [hd];intro h;injection h with q1 q2 q3;exact h5 ⟨q1,q2,q3⟩
  unfold Hid keepsR inTime duOf;simp [e1,e2]
 obtain ⟨g,off,cap,c1,c2,hs⟩:=rfP_out hA hs;rw [hd] at hs;unfold evV;dsimp only;dsimp only [duEv,evCells] at hs;have Hno:=hid hno;have d1:(A.last.k==24)=false:=by simp [h1]
 have d2:decide (co<A.last.co)=false:=by simp;omega
 have d3:decide (cy<A.last.cy)=false:=by simp;omega
 clear hno h1 h2 h3 hd;have g0:(dk != 0)=true:=by simp [h4]
 clear h4
 by_cases q1:dk=k
 ·subst q1
  by_cases q2:da=a
  ·subst q2;have g2:((b:Int)==(db:Int))=false:=by simp;intro h;exact h5 ⟨rfl,rfl,by omega⟩
   clear h5
   go_enter Tryz.func40,Tryz.ntmps40
   go_wp2_with fail;refine wp_gen (w0:=w0) ?_;intro wx hsx;refine wp_region_early (fun w'=>Sat w0 w' (pts w.heap.size 0 [.int .i64 dk,.int .u64 cy,.int .u64 co,.int .u32 da,.int .u32 b,.int .u32 v]*(pts pb 51 [.int .i64 A.last.k,.int .u64 A.last.cy,.int .u64 A.last.co,.int .u32 A.last.a,.int .u32 A.last.b,.int .u32 A.last.v]*(pts (w.heap.size+1) 0 [.int .i64 dk,.int .u64 0,.int .u64 0,.int .u32 da,.int .u32 db,.int .u32 0]*any)))) [(0,true),(1,false),(2,true),(3,true),(4,true),(5,true),(6,true),(7,true),(8,true),(9,true),(10,true),(11,true),(12,true),(13,true),(14,true),(15,true),(16,true),(17,true),(18,true),(19,true),(20,true),(21,true),(22,true),(23,true),(24,true),(25,true),(26,true),(27,true),(28,true),(29,true),(30,true),(31,true),(32,true),(33,true),(34,true),(35,true),(36,true),(37,true),(38,true),(39,true),(40,true),(41,true),(42,true),(43,true),(44,false),(45,true),(46,true)] (by kernel_rfl) (by kernel_rfl) (fun _ _ _ _ h=>h) own_any3 ?_
   iterate 1 (first | refine early_S ?_ | refine early_N ?_)
   refine early_G rfl (by rfl) (fun K hK=>?_);go_wp2_with fail;refine (rfCheck dk cy co da b v w0 _ _).mono ?_;rintro en w1 ⟨n,rfl,hn,hs1⟩;obtain rfl:n=0:=hn.2 Hno.out;clear hn;go_wp2_with fail;refine ⟨own_any3,?_⟩
   iterate 42 (first | refine early_S ?_ | refine early_N ?_)
   refine early_run (fun K hK=>?_);simp only [zqS,zqZ];rw [if_neg (ne_true_of_eq_false (by rfl))];refine hK _ _ ⟨own_any3,?_⟩;clear hK K;simp only [Act.put,zqA,zqP,zqQ]
   iterate 2 (first | refine early_S ?_ | refine early_N ?_)
   refine early_done ?_;clear hs hsx;go_wp2_with fail;go_ret;exact nr_no Hk.out own_left
  ·have g2:((a:Int)==(da:Int))=false:=by simp;omega
   clear h5 q2
   go_enter Tryz.func40,Tryz.ntmps40
   go_wp2_with fail;refine wp_gen (w0:=w0) ?_;intro wx hsx;refine wp_region_early (fun w'=>Sat w0 w' (pts w.heap.size 0 [.int .i64 dk,.int .u64 cy,.int .u64 co,.int .u32 a,.int .u32 b,.int .u32 v]*(pts pb 51 [.int .i64 A.last.k,.int .u64 A.last.cy,.int .u64 A.last.co,.int .u32 A.last.a,.int .u32 A.last.b,.int .u32 A.last.v]*(pts (w.heap.size+1) 0 [.int .i64 dk,.int .u64 0,.int .u64 0,.int .u32 da,.int .u32 db,.int .u32 0]*any)))) [(0,true),(1,false),(2,true),(3,true),(4,true),(5,true),(6,true),(7,true),(8,true),(9,true),(10,true),(11,true),(12,true),(13,true),(14,true),(15,true),(16,true),(17,true),(18,true),(19,true),(20,true),(21,true),(22,true),(23,true),(24,true),(25,true),(26,true),(27,true),(28,true),(29,true),(30,true),(31,true),(32,true),(33,true),(34,true),(35,true),(36,true),(37,true),(38,true),(39,true),(40,true),(41,true),(42,true),(43,true),(44,false),(45,true),(46,true)] (by kernel_rfl) (by kernel_rfl) (fun _ _ _ _ h=>h) own_any3 ?_
   iterate 1 (first | refine early_S ?_ | refine early_N ?_)
   refine early_G rfl (by rfl) (fun K hK=>?_);go_wp2_with fail;refine (rfCheck dk cy co a b v w0 _ _).mono ?_;rintro en w1 ⟨n,rfl,hn,hs1⟩;obtain rfl:n=0:=hn.2 Hno.out;clear hn;go_wp2_with fail;refine ⟨own_any3,?_⟩
   iterate 42 (first | refine early_S ?_ | refine early_N ?_)
   refine early_run (fun K hK=>?_);simp only [zqS,zqZ];rw [if_neg (ne_true_of_eq_false (by rfl))];refine hK _ _ ⟨own_any3,?_⟩;clear hK K;simp only [Act.put,zqA,zqP,zqQ]
   iterate 2 (first | refine early_S ?_ | refine early_N ?_)
   refine early_done ?_;clear hs hsx;go_wp2_with fail;go_ret;exact nr_no Hk.out own_left
 ·have g1:(k==dk)=false:=by simp;omega
  clear h5 q1
  go_enter Tryz.func40,Tryz.ntmps40
  go_wp2_with fail;refine wp_gen (w0:=w0) ?_;intro wx hsx;refine wp_region_early (fun w'=>Sat w0 w' (pts w.heap.size 0 [.int .i64 k,.int .u64 cy,.int .u64 co,.int .u32 a,.int .u32 b,.int .u32 v]*(pts pb 51 [.int .i64 A.last.k,.int .u64 A.last.cy,.int .u64 A.last.co,.int .u32 A.last.a,.int .u32 A.last.b,.int .u32 A.last.v]*(pts (w.heap.size+1) 0 [.int .i64 dk,.int .u64 0,.int .u64 0,.int .u32 da,.int .u32 db,.int .u32 0]*any)))) [(0,true),(1,false),(2,true),(3,true),(4,true),(5,true),(6,true),(7,true),(8,true),(9,true),(10,true),(11,true),(12,true),(13,true),(14,true),(15,true),(16,true),(17,true),(18,true),(19,true),(20,true),(21,true),(22,true),(23,true),(24,true),(25,true),(26,true),(27,true),(28,true),(29,true),(30,true),(31,true),(32,true),(33,true),(34,true),(35,true),(36,true),(37,true),(38,true),(39,true),(40,true),(41,true),(42,true),(43,true),(44,false),(45,true),(46,true)] (by kernel_rfl) (by kernel_rfl) (fun _ _ _ _ h=>h) own_any3 ?_
  iterate 1 (first | refine early_S ?_ | refine early_N ?_)
  refine early_G rfl (by rfl) (fun K hK=>?_);go_wp2_with fail;refine (rfCheck k cy co a b v w0 _ _).mono ?_;rintro en w1 ⟨n,rfl,hn,hs1⟩;obtain rfl:n=0:=hn.2 Hno.out;clear hn;go_wp2_with fail;refine ⟨own_any3,?_⟩
  iterate 42 (first | refine early_S ?_ | refine early_N ?_)
  refine early_run (fun K hK=>?_);simp only [zqS,zqZ];rw [if_neg (ne_true_of_eq_false (by rfl))];refine hK _ _ ⟨own_any3,?_⟩;clear hK K;simp only [Act.put,zqA,zqP,zqQ]
  iterate 2 (first | refine early_S ?_ | refine early_N ?_)
  refine early_done ?_;clear hs hsx;go_wp2_with fail;go_ret;exact nr_no Hk.out own_left
theorem rfNext_had (pb:Nat) (A:Au) (k:Nat) (cy co:Int) (a b v:Nat) (w0 w:World) (F:HP) (hs:Sat w0 w (rfP pb A*F)) (hA:AOk A) (dk:Int) (da db:Nat) (hd:A.due=⟨dk, da, db⟩) (hseen:0≤A.seen∧A.seen<1000000000) (hkk:1≤k∧k≤24) (hok:okN k a b v=true) (hv:v<4294967296) (hno:okE ⟨k, cy, co, a, b, v⟩=true) (h1:A.last.k≠24) (h2:A.last.co≤co) (h3:A.last.cy≤cy) (hdd:dk=k∧da=a∧db=b) :
    Calls Tryz.prog 40 #[.pointer (some ⟨pb, 0, none⟩), evV ⟨k, cy, co, a, b, v⟩] w (Nr w0 pb A ⟨k, cy, co, a, b, v⟩ F) := by
  obtain ⟨e1, e2, e3⟩ := hdd;have hd2:A.due=⟨k, a, b⟩ := by rw [hd, e1, e2, e3]
  clear hd e1 e2 e3 dk da db;have hrd:∀ x, rule { A with due := du0 } k a b v x=rule A k a b v x := fun x => rfl;have Hk:Hid (keepsR A ⟨k, cy, co, a, b, v⟩=rule A k a b v true) := by
    unfold Hid keepsR inTime duOf;rw [hd2];have e:decide ((⟨k, a, b⟩:Du)=⟨k, a, b⟩)=true := by
      exact decide_eq_true rfl
    rw [e]; simp [hno, h1, h2, h3, hrd]
  have Hst:Hid (stepA A ⟨k, cy, co, a, b, v⟩={ learn { A with due := du0 } k a b v with last := ⟨k, cy, co, a, b, v⟩, seen := A.seen+1 }) := rfl;have Hsn := hid (learn_seen { A with due := du0 } k a b v);dsimp only at Hsn;have hA0 := hA.noDue;have Hle := hid (aok_learn hA0 k a b v hkk hok hv);obtain ⟨g, off, cap, c1, c2, hs⟩ := rfP_out hA hs;rw [hd2] at hs;unfold evV;dsimp only;dsimp only [duEv, evCells] at hs;have Hno := hid hno;have d1:(A.last.k==24)=false := by simp [h1]
  have d2:decide (co<A.last.co)=false := by simp; omega
  have d3:decide (cy<A.last.cy)=false := by simp; omega
  clear hno h1 h2 h3 hrd;have g0:((k:Int) != 0)=true := by simp; omega
  generalize hr:rule A k a b v true=r at Hk;have Hr := hid hr;clear hr
  cases r
  all_goals
    go_enter Tryz.func40, Tryz.ntmps40
    go_wp2_with fail;refine wp_gen (w0 := w0) ?_;intro wx hsx;refine wp_region_early (fun w' => Sat w0 w' (pts w.heap.size 0 [.int .i64 k, .int .u64 cy, .int .u64 co, .int .u32 a, .int .u32 b, .int .u32 v]*(pts pb 51 [.int .i64 A.last.k, .int .u64 A.last.cy, .int .u64 A.last.co, .int .u32 A.last.a, .int .u32 A.last.b, .int .u32 A.last.v]*(pts (w.heap.size+1) 0 [.int .i64 k, .int .u64 0, .int .u64 0, .int .u32 a, .int .u32 b, .int .u32 0]*any)))) [(0, true), (1, false), (2, true), (3, true), (4, true), (5, true), (6, true), (7, true), (8, true), (9, true), (10, true), (11, true), (12, true), (13, true), (14, true), (15, true), (16, true), (17, true), (18, true), (19, true), (20, true), (21, true), (22, true), (23, true), (24, true), (25, true), (26, true), (27, true), (28, true), (29, true), (30, true), (31, true), (32, true), (33, true), (34, true), (35, true), (36, true), (37, true), (38, true), (39, true), (40, true), (41, true), (42, true), (43, true), (44, false), (45, true), (46, true)] (by kernel_rfl) (by kernel_rfl) (fun _ _ _ _ h => h) own_any3 ?_
    iterate 1 (first | refine early_S ?_ | refine early_N ?_)
    refine early_G rfl (by rfl) (fun K hK => ?_);go_wp2_with fail;refine (rfCheck k cy co a b v w0 _ _).mono ?_;rintro en w1 ⟨n, rfl, hn, hs1⟩;obtain rfl:n=0 := hn.2 Hno.out;clear hn;go_wp2_with fail;refine ⟨own_any3, ?_⟩
    iterate 42 (first | refine early_S ?_ | refine early_N ?_)
    refine early_G rfl (by rfl) (fun K hK => ?_);go_wp2_with fail;refine (rfRule pb A k a b v hkk true cy co w0 _ (pts w.heap.size 0 [.int .i64 k, .int .u64 cy, .int .u64 co, .int .u32 a, .int .u32 b, .int .u32 v]*(pts (w.heap.size+1) 0 [.int .i64 k, .int .u64 0, .int .u64 0, .int .u32 a, .int .u32 b, .int .u32 0]*F)) (rfP_of (v := .slice (some ⟨g, off, none⟩) 64 cap) (by rw [hd2]; exact own_left)) hA hok hv).mono ?_;rintro en w2 ⟨rfl, hs2⟩;obtain ⟨g2, off2, cap2, c3, c4, hs2⟩ := rfP_out hA hs2;rw [hd2] at hs2;dsimp only [duEv, evCells] at hs2;rw [Hr.out];clear hs hsx hs1;go_wp2_with fail;refine ⟨own_any3, ?_⟩
    iterate 2 (first | refine early_S ?_ | refine early_N ?_)
    refine early_done ?_;go_wp2_with fail
    first
      | (refine (rfLearn pb { A with due := du0 } k a b v hkk cy co w0 _ (pts w.heap.size 0 [.int .i64 k, .int .u64 cy, .int .u64 co, .int .u32 a, .int .u32 b, .int .u32 v]*(pts (w.heap.size+1) 0 [.int .i64 k, .int .u64 0, .int .u64 0, .int .u32 a, .int .u32 b, .int .u32 0]*F)) (rfP_of (v := .slice (some ⟨g2, off2, none⟩) 64 cap2) own_left) hA0 hok hv).mono ?_
         rintro en w3 ⟨rfl, hs3⟩;generalize learn { A with due := du0 } k a b v=B at hs3 Hst Hsn Hle;have hb1:0≤B.seen∧B.seen<1000000000 := by have := Hsn.out; omega
         obtain ⟨g3, off3, cap3, c5, c6, hs3⟩ := rfP_out Hle.out hs3;clear hs2;go_wp2_with fail;go_ret;refine nr_yes Hk.out (rfP_of (v := .slice (some ⟨g3, off3, none⟩) 64 cap3) ?_);rw [Hst.out];dsimp only;rw [← Hsn.out];exact own_left)
      | (go_ret
         exact nr_no Hk.out own_left)
theorem rfNext_free (pb:Nat) (A:Au) (k:Nat) (cy co:Int) (a b v:Nat) (w0 w:World) (F:HP) (hs:Sat w0 w (rfP pb A*F)) (hA:AOk A) (dk:Int) (da db:Nat) (hd:A.due=⟨dk, da, db⟩) (hseen:0≤A.seen∧A.seen<1000000000) (hkk:1≤k∧k≤24) (hok:okN k a b v=true) (hv:v<4294967296) (hno:okE ⟨k, cy, co, a, b, v⟩=true) (h1:A.last.k≠24) (h2:A.last.co≤co) (h3:A.last.cy≤cy) (hdd:dk=0∧da=0∧db=0) :
    Calls Tryz.prog 40 #[.pointer (some ⟨pb, 0, none⟩), evV ⟨k, cy, co, a, b, v⟩] w (Nr w0 pb A ⟨k, cy, co, a, b, v⟩ F) := by
  obtain ⟨e1, e2, e3⟩ := hdd;have hd2:A.due=du0 := by rw [hd, e1, e2, e3]
  clear hd e1 e2 e3 dk da db;have hrd:∀ x, rule { A with due := du0 } k a b v x=rule A k a b v x := fun x => rfl;have Hk:Hid (keepsR A ⟨k, cy, co, a, b, v⟩=rule A k a b v false) := by
    unfold Hid keepsR inTime duOf;rw [hd2];have e:decide ((du0:Du)=⟨k, a, b⟩)=false := by
      refine decide_eq_false fun h => ?_; have := congrArg Du.k h; simp at this; omega
    rw [e]; simp [hno, h1, h2, h3, hrd]
  have Hst:Hid (stepA A ⟨k, cy, co, a, b, v⟩={ learn { A with due := du0 } k a b v with last := ⟨k, cy, co, a, b, v⟩, seen := A.seen+1 }) := rfl;have Hsn := hid (learn_seen { A with due := du0 } k a b v);dsimp only at Hsn;have hA0 := hA.noDue;have Hle := hid (aok_learn hA0 k a b v hkk hok hv);obtain ⟨g, off, cap, c1, c2, hs⟩ := rfP_out hA hs;rw [hd2] at hs;unfold evV;dsimp only;dsimp only [duEv, evCells] at hs;have Hno := hid hno;have d1:(A.last.k==24)=false := by simp [h1]
  have d2:decide (co<A.last.co)=false := by simp; omega
  have d3:decide (cy<A.last.cy)=false := by simp; omega
  clear hno h1 h2 h3 hrd;have g0:((k:Int) != 0)=true := by simp; omega
  generalize hr:rule A k a b v false=r at Hk;have Hr := hid hr;clear hr
  cases r
  all_goals
    go_enter Tryz.func40, Tryz.ntmps40
    go_wp2_with fail;refine wp_gen (w0 := w0) ?_;intro wx hsx;refine wp_region_early (fun w' => Sat w0 w' (pts w.heap.size 0 [.int .i64 k, .int .u64 cy, .int .u64 co, .int .u32 a, .int .u32 b, .int .u32 v]*(pts pb 51 [.int .i64 A.last.k, .int .u64 A.last.cy, .int .u64 A.last.co, .int .u32 A.last.a, .int .u32 A.last.b, .int .u32 A.last.v]*(pts (w.heap.size+1) 0 [.int .i64 0, .int .u64 0, .int .u64 0, .int .u32 0, .int .u32 0, .int .u32 0]*any)))) [(0, true), (1, false), (2, true), (3, true), (4, true), (5, true), (6, true), (7, true), (8, true), (9, true), (10, true), (11, true), (12, true), (13, true), (14, true), (15, true), (16, true), (17, true), (18, true), (19, true), (20, true), (21, true), (22, true), (23, true), (24, true), (25, true), (26, true), (27, true), (28, true), (29, true), (30, true), (31, true), (32, true), (33, true), (34, true), (35, true), (36, true), (37, true), (38, true), (39, true), (40, true), (41, true), (42, true), (43, true), (44, false), (45, true), (46, true)] (by kernel_rfl) (by kernel_rfl) (fun _ _ _ _ h => h) own_any3 ?_
    iterate 1 (first | refine early_S ?_ | refine early_N ?_)
    refine early_G rfl (by rfl) (fun K hK => ?_);go_wp2_with fail;refine (rfCheck k cy co a b v w0 _ _).mono ?_;rintro en w1 ⟨n, rfl, hn, hs1⟩;obtain rfl:n=0 := hn.2 Hno.out;clear hn;go_wp2_with fail;refine ⟨own_any3, ?_⟩
    iterate 42 (first | refine early_S ?_ | refine early_N ?_)
    refine early_G rfl (by rfl) (fun K hK => ?_);go_wp2_with fail;refine (rfRule pb A k a b v hkk false cy co w0 _ (pts w.heap.size 0 [.int .i64 k, .int .u64 cy, .int .u64 co, .int .u32 a, .int .u32 b, .int .u32 v]*(pts (w.heap.size+1) 0 [.int .i64 0, .int .u64 0, .int .u64 0, .int .u32 0, .int .u32 0, .int .u32 0]*F)) (rfP_of (v := .slice (some ⟨g, off, none⟩) 64 cap) (by rw [hd2]; exact own_left)) hA hok hv).mono ?_;rintro en w2 ⟨rfl, hs2⟩;obtain ⟨g2, off2, cap2, c3, c4, hs2⟩ := rfP_out hA hs2;rw [hd2] at hs2;dsimp only [duEv, evCells] at hs2;rw [Hr.out];clear hs hsx hs1;go_wp2_with fail;refine ⟨own_any3, ?_⟩
    iterate 2 (first | refine early_S ?_ | refine early_N ?_)
    refine early_done ?_;go_wp2_with fail
    first
      | (refine (rfLearn pb { A with due := du0 } k a b v hkk cy co w0 _ (pts w.heap.size 0 [.int .i64 k, .int .u64 cy, .int .u64 co, .int .u32 a, .int .u32 b, .int .u32 v]*(pts (w.heap.size+1) 0 [.int .i64 0, .int .u64 0, .int .u64 0, .int .u32 0, .int .u32 0, .int .u32 0]*F)) (rfP_of (v := .slice (some ⟨g2, off2, none⟩) 64 cap2) own_left) hA0 hok hv).mono ?_
         rintro en w3 ⟨rfl, hs3⟩;generalize learn { A with due := du0 } k a b v=B at hs3 Hst Hsn Hle;have hb1:0≤B.seen∧B.seen<1000000000 := by have := Hsn.out; omega
         obtain ⟨g3, off3, cap3, c5, c6, hs3⟩ := rfP_out Hle.out hs3;clear hs2;go_wp2_with fail;go_ret;refine nr_yes Hk.out (rfP_of (v := .slice (some ⟨g3, off3, none⟩) 64 cap3) ?_);rw [Hst.out];dsimp only;rw [← Hsn.out];exact own_left)
      | (go_ret
         exact nr_no Hk.out own_left)
theorem rfNext (pb:Nat) (A:Au) (e:Ev) (w0 w:World) (F:HP) (hs:Sat w0 w (rfP pb A*F)) (hA:AOk A) (he:EvOk e) (hseen:0≤A.seen∧A.seen<1000000000) :
  Calls Tryz.prog 40 #[.pointer (some ⟨pb,0,none⟩),evV e] w (Nr w0 pb A e F):=by
 obtain ⟨k,cy,co,a,b,v⟩:=e
 by_cases h0:okE ⟨k,cy,co,a,b,v⟩=true
 ·have h0':=h0;unfold okE at h0';simp only [Bool.and_eq_true,decide_eq_true_eq] at h0';obtain ⟨hkk,hok⟩:=h0'
  by_cases h1:A.last.k=24
  ·exact rfNext_close pb A k cy co a b v w0 w F hs hA A.due.k A.due.a A.due.b rfl h0 h1
  ·by_cases h2:A.last.co≤co
   ·by_cases h3:A.last.cy≤cy
    ·obtain ⟨n,rfl⟩:=Int.eq_ofNat_of_zero_le (show 0≤k by omega);have hok:okN n a b v=true:=hok;have hkk:1≤n∧n≤24:=by omega
     by_cases h4:A.due.k=0
     ·have h6:=hA.dz h4;exact rfNext_free pb A n cy co a b v w0 w F hs hA A.due.k A.due.a A.due.b rfl hseen hkk hok he.v h0 h1 h2 h3 (by rw [h6];exact ⟨rfl,rfl,rfl⟩)
     ·by_cases h5:A.due.k=n∧A.due.a=a∧A.due.b=b
      ·exact rfNext_had pb A n cy co a b v w0 w F hs hA A.due.k A.due.a A.due.b rfl hseen hkk hok he.v h0 h1 h2 h3 h5
      ·exact rfNext_due pb A n cy co a b v w0 w F hs hA A.due.k A.due.a A.due.b rfl h0 h1 h2 h3 h4 h5
    ·exact rfNext_cy pb A k cy co a b v w0 w F hs hA A.due.k A.due.a A.due.b rfl h0 h1 h2 h3
   ·exact rfNext_co pb A k cy co a b v w0 w F hs hA A.due.k A.due.a A.due.b rfl h0 h1 h2
 ·exact rfNext_ev pb A k cy co a b v w0 w F hs hA A.due.k A.due.a A.due.b rfl (by simpa using h0)
instance:ElemR Tryz.prog 86 Tr 5 encTr 121 40 (.agg #[.int .i64 0,.int .i64 0,.int .i64 0,.int .i64 0,.int .u32 0]):=⟨⟨by kernel_rfl,by kernel_rfl,rfl⟩,by decide⟩
instance:Cells encTr [.int .i64 0,.int .i64 0,.int .i64 0,.int .i64 (-1),.int .u32 0] [toTr tk0]:=⟨rfl⟩
theorem dn_zero {l:List Int} (h:l.length=32) (h0:∀ j,j<32→owg l j=0):l=List.replicate 32 0:=by
 refine List.eq_replicate_iff.2 ⟨h,fun x hx=>?_⟩;obtain ⟨j,hj,rfl⟩:=List.getElem_of_mem hx;have:=h0 j (by omega);unfold owg at this
 simpa [List.getD,hj] using this
theorem owg_set {l:List Int} {k j:Nat} (h:k<l.length) (x:Int):owg (l.set k x) j=if j=k then x else owg l j:=by
 unfold owg
 by_cases e:j=k
 ·subst e;rw [if_pos rfl];exact getD_set_self h x 0
 ·rw [if_neg e];simp [List.getD,List.getElem?_set_ne (Ne.symm e)]
def zeroR:List Value:=[.slice none 0 0]++(dn (List.replicate 32 1)++((List.replicate 16 false).map Value.bool++([.int .i64 (-1),.int .i64 255]++(evCells ev0++(evCells ev0++[.int .i64 0,.bool false])))))
theorem zeroR_eq:(Tryz.zeroCells90.setIfInBounds 49 (Value.int .i64 (-1))).setIfInBounds 50 (Value.int .i64 255)=zeroR.toArray:=by kernel_rfl
theorem rfNew (w0 w:World) (F:HP) (hs:Sat w0 w F) :
  Calls Tryz.prog 24 #[] w fun en w'=>∃ b,en=.returned (.pointer (some ⟨b,0,none⟩))∧Sat w0 w' (rfP b au0*F):=by
 have hB:=hs.alloc zeroR.toArray 90;rw [← zeroR_eq] at hB;have Hlist:Hid (((Tryz.zeroCells90.setIfInBounds 49 (Value.int .i64 (-1))).setIfInBounds 50 (Value.int .i64 255)).toList=zeroR):=by unfold Hid;rw [zeroR_eq]
 rw [Hlist.out] at hB
 go_enter Tryz.func24,Tryz.ntmps24
 go_wp2_with fail;refine wp_gen (w0:=w0) ?_;intro wx hsx;generalize w.heap.size=b at *;have h1:Sat w0 wx (pts b 0 zeroR*F):=hsx;unfold zeroR at h1;rw [pts_append,pts_append,pts_append,pts_append,pts_append,pts_append] at h1;have h2:Sat w0 wx (pts b 0 [.slice none 0 0]*(pts b 1 (dn (List.replicate 32 1))*(pts b 33 ((List.replicate 16 false).map Value.bool)*(pts b 49 [.int .i64 (-1),.int .i64 255]*(pts b 51 (evCells ev0)*(pts b 57 (evCells ev0)*pts b 63 [.int .i64 0,.bool false])))))*F):=h1;clear h1 hsx hB;have h3:Sat w0 wx (pts b 0 [.slice none 0 0]*(recsP (.slice none 0 0) ([]:List Tr)*(pts b 1 (dn (List.replicate 32 1))*(pts b 33 ((List.replicate 16 false).map Value.bool)*(pts b 49 [.int .i64 (-1),.int .i64 255]*(pts b 51 (evCells ev0)*(pts b 57 (evCells ev0)*(pts b 63 [.int .i64 0,.bool false]*F)))))))):=h2.perm (by rw [recsP_nil,emp_star];ac_rfl);clear h2 hs
 go_loopw [2] (fun i wr=>∃ (k:Nat) (v:Value),k≤64∧i=.int .i64 k∧Sat w0 wr (pts b 0 [v]*(recsP v ((List.replicate k tk0).map toTr)*(pts b 1 (dn (List.replicate 32 1))*(pts b 33 ((List.replicate 16 false).map Value.bool)*(pts b 49 [.int .i64 (-1),.int .i64 255]*(pts b 51 (evCells ev0)*(pts b 57 (evCells ev0)*(pts b 63 [.int .i64 0,.bool false]*F))))))))) (fun i _=>64-(intOf i).toNat)
 case atStart=>exact ⟨0,_,by omega,rfl,h3⟩
 case round =>
  obtain ⟨k,v,hk,rfl,hs4⟩:=hrel;clear h3;obtain ⟨a,c,rfl⟩:=(hs4.pull (Q:=recsP v ((List.replicate k tk0).map toTr))).recs_form;rw [List.length_map,List.length_replicate] at hs4
  by_cases hk64:k<64
  ·have i1:(k:Int)<64:=by omega
   have Hrep:Hid ((List.replicate k tk0).map toTr++[toTr tk0]=(List.replicate (k+1) tk0).map toTr):=by
    unfold Hid;rw [List.replicate_succ',List.map_append];rfl
   generalize hL:(List.replicate k tk0).map toTr=L at *;have HL:=hid hL;clear hL;go_wp2_with (first | (at_builtin;refine wpList_append_recs rfl rfl rfl rfl (by omega) ?_;intro ap ac aL aw ahL ah1 ah2 ahs _) | (refine wpList_sliceR_from rfl rfl rfl rfl (by omega) (by omega) ?_;intro px pc pL php phL ph1 ph2) | (refine wpList_sliceR_to rfl rfl rfl rfl (by omega) (by omega) ?_;intro px pc pL php phL ph1 ph2));go_roundw
   case rel =>
    refine ⟨k+1,.slice ap aL.length ac,by omega,by go_num,?_⟩;rw [← Hrep.out,← ahL.out];exact own_left
   case measure=>simp [intOf];omega
  ·obtain rfl:k=64:=by omega
   have i1:¬ ((64:Int)<64):=by omega
   generalize hL:(List.replicate 64 tk0).map toTr=L at *;have HL:=hid hL;clear hL;go_wp2_with fail
   go_loopw [3] (fun i wr=>∃ (j:Nat) (l:List Int),j≤32∧i=.int .i64 j∧l.length=32∧(∀ m,m<j→owg l m=0)∧Sat w0 wr (pts b 0 [.slice a 64 c]*(recsP (.slice a 64 c) L*(pts b 1 (dn l)*(pts b 33 ((List.replicate 16 false).map Value.bool)*(pts b 49 [.int .i64 (-1),.int .i64 255]*(pts b 51 (evCells ev0)*(pts b 57 (evCells ev0)*(pts b 63 [.int .i64 0,.bool false]*F))))))))) (fun i _=>32-(intOf i).toNat)
   case atStart=>exact ⟨0,List.replicate 32 1,by omega,rfl,rfl,fun m hm=>absurd hm (by omega),hs4⟩
   case round =>
    obtain ⟨j,l,hj,rfl,hl,hz,hs5⟩:=hrel;clear hs4;have Hz:=hid hz;have Hll:=hid hl;clear hz hl
    by_cases hj32:j<32
    ·have i2:(j:Int)<32:=by omega
     have i3:decide (j<32)=true:=by simp;omega
     haveI:Lt j l.length:=⟨by have:=Hll.out;omega⟩;go_wp2_with fail;go_roundw
     case rel =>
      refine ⟨j+1,l.set j (-1+1),by omega,by go_num,by rw [List.length_set];exact Hll.out,fun m hm=>?_,own_left⟩;rw [owg_set this.lt]
      split
      ·rfl
      ·exact Hz.out m (by omega)
     case measure=>simp [intOf];omega
    ·obtain rfl:j=32:=by omega
     have i2:¬ ((32:Int)<32):=by omega
     have hd:=dn_zero Hll.out Hz.out;subst hd;go_wp2_with fail;go_ret;refine ⟨b,rfl,rfP_of (v:=.slice a 64 c) ?_⟩;have h6:au0.ts.map toTr=L:=HL.out;rw [h6];have h7:Sat w0 _ (pts b 0 [.slice a 64 c]*(recsP (.slice a 64 c) L*(pts b 1 (dn (List.replicate 32 0))*(pts b 33 ((List.replicate 16 false).map Value.bool)*(pts b 49 [.int .i64 (-1),.int .i64 255]*(pts b 51 (evCells ev0)*(pts b 57 (evCells ev0)*(pts b 63 [.int .i64 0,.bool false]*F)))))))):=own_left (w:=wr);exact h7
end Go.Proofs.YtkeommmigopnkaaGreatDoor
