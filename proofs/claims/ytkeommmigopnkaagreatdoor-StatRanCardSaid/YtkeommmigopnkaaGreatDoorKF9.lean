/-
  Parts of the proof: AuditG AuditH AuditI AuditM AuditJ AuditK AuditL AuditN AuditOpen AuditEv.
-/
import Derived.Test.YtkeommmigopnkaaGreatDoorKF3
import Derived.Test.YtkeommmigopnkaaGreatDoorKF4
import Derived.Test.YtkeommmigopnkaaGreatDoorKF8
set_option linter.unusedVariables false
set_option linter.unusedSimpArgs false
set_option maxHeartbeats 32000000
set_option maxRecDepth 100000
namespace Go.Proofs.YtkeommmigopnkaaGreatDoor
open Go.RowKit Go.Sx Go.Au
theorem auActsX (b:Nat) (A:Au) (a:Nat) (x:Bool) (hx:acts A a=x) (w0 w:World) (F:HP) (hs:Sat w0 w (auP b A*F)) (hA:AOk A) (ha:a<4294967296) :
  Calls Tryz.prog 125 #[.pointer (some ⟨b,0,none⟩),.int .u32 a] w fun e w'=>e=.returned (.bool x)∧w=w':=by
 subst hx;exact auActs b A a w0 w F hs hA ha
theorem rule8 (A:Au) (a b v:Nat) (had:Bool):rule A 8 a b v had=(acts A a && decide (v=(tkAt A a).job)):=rfl
theorem learn8 (A:Au) (a b v:Nat):learn A 8 a b v={ setT A a { tkAt A a with st:=0 } with due:=if (tkAt A a).late > 0 then ⟨6,a,0⟩ else A.due }:=rfl
theorem natBeq (x y:Nat):((x:Int)==(y:Int))=decide (x=y):=by rw [Bool.eq_iff_iff];simp;omega
theorem auJobs8 (pb:Nat) (A:Au) (a b v:Nat) (had:Bool) (cy co:Int) (w0 w:World) (F:HP) (hs:Sat w0 w (auP pb A*F)) (hA:AOk A) (ha:a<64) (hv:v<4294967296) :
    Calls Tryz.prog 127 #[.pointer (some ⟨pb, 0, none⟩), evA 8 a b v cy co] w (Aft w0 pb A 8 a b v had F) := by
  have hs := auP_out hs;have hlt := hA.lt;have hm := tkg_mem (l := A.ts) (k := a) (by omega);have hl := hA.late _ hm;have Hr := hid (rule8 A a b v had);have Hl := hid (learn8 A a b v);have Hlt := hid hlt;have i1:(a:Int)<64 := by omega
  have i2:decide (a<64)=true := by simp; omega
  haveI:Lt a A.ts.length := ⟨by omega⟩;clear hlt hm;generalize hx:acts A a=x at Hr;have Hx := hid hx;clear hx
  by_cases hp:0<(tkg A.ts a).late
  all_goals
    first
      | (have p1:decide (0<(tkg A.ts a).late)=true := by simp [hp]
         have Hd:Hid ((if (tkAt A a).late > 0 then (⟨6, a, 0⟩:Du) else A.due)=⟨6, a, 0⟩) := by unfold Hid; exact if_pos hp)
      | (have p1:decide (0<(tkg A.ts a).late)=false := by simp [hp]
         have Hd:Hid ((if (tkAt A a).late > 0 then (⟨6, a, 0⟩:Du) else A.due)=A.due) := by unfold Hid; exact if_neg hp)
    clear hp
    cases x
    all_goals
      go_enter Tryz.func127, Tryz.ntmps127
      go_wp2_with fail;go_quiet (fail); go_wp2_with fail; refine wp_gen (w0 := w0) ?_; intro wq hsq;go_quiet ((go_at_call 125; exact quiet_eq (auActsX pb A a _ Hx.out w0 _ any (auP_of own_left) hA (by omega))));go_wp2_with fail;go_ret;refine aft_both ?_ (auP_of ?_)
      · rw [Hr.out]; first | rfl | exact natBeq _ _
      · rw [Hl.out, Hd.out]
        dsimp only [setT, tkAt, duCells];exact own_left
theorem rule9 (A:Au) (a b v:Nat) (had:Bool):rule A 9 a b v had=(acts A a && (!isMu b || decide (owAt A (b-32)≠0) && decide (owAt A (b-32)≠(a:Int)+1))):=rfl
theorem learn9 (A:Au) (a b v:Nat):learn A 9 a b v=setT A a { tkAt A a with st:=2,on:=b }:=rfl
theorem auRests9 (pb:Nat) (A:Au) (a b v:Nat) (had:Bool) (cy co:Int) (w0 w:World) (F:HP) (hs:Sat w0 w (auP pb A*F)) (hA:AOk A) (ha:a<64) (hb:b<160) :
  Calls Tryz.prog 128 #[.pointer (some ⟨pb,0,none⟩),evA 9 a b v cy co] w (Aft w0 pb A 9 a b v had F):=by
 have hs:=auP_out hs;have hlt:=hA.lt;have Hr:=hid (rule9 A a b v had);have Hl:=hid (learn9 A a b v);have Hlt:=hid hlt;have Hlo:=hid hA.lo;have i1:(a:Int)<64:=by omega
 have i2:decide (a<64)=true:=by simp;omega
 haveI:Lt a A.ts.length:=⟨by omega⟩;clear hlt;generalize hx:acts A a=x at Hr;have Hx:=hid hx;clear hx
 by_cases hmu:isMu b=true
 ·have hm32:b-32<32:=by simp [isMu] at hmu;omega
  have i3:((b-32:Nat):Int)<32:=by omega
  have i4:decide (b-32<32)=true:=by simp;omega
  haveI:Lt (b-32) A.ow.length:=⟨by rw [hA.lo];omega⟩;have hown:=hA.own (owg A.ow (b-32)) (getD_mem (by rw [hA.lo];omega) 0);have Hmu:=hid hmu;rw [hmu] at Hr;have Hr2:Hid (rule A 9 a b v had=(x && (decide (owg A.ow (b-32)≠0) && decide (owg A.ow (b-32)≠(a:Int)+1)))):=Hr;clear Hr;clear hmu;generalize hmm:b-32=m at *;have Hmm:=hid hmm;clear hmm;generalize hoo:owg A.ow m=o at Hr2;haveI:Cell (pts pb 331 (A.ow.map (Value.int .i64))) pb (331+m) (.int .i64 o):=by
   rw [← hoo];infer_instance
  rw [hoo] at hown;clear hoo;have e0:(o != 0)=decide (o≠0):=by rw [Bool.eq_iff_iff];simp
  have e1:(o != (a:Int)+1)=decide (o≠(a:Int)+1):=by rw [Bool.eq_iff_iff];simp
  generalize decide (o≠0)=y0 at *;generalize decide (o≠(a:Int)+1)=y1 at *
  cases x<;>cases y0<;>cases y1
  all_goals
   go_enter Tryz.func128,Tryz.ntmps128
   go_wp2_with fail;go_quiet (fail);go_wp2_with fail;refine (auActsX pb A a _ Hx.out w0 _ any (auP_of own_left) hA (by omega)).mono ?_;rintro e w' ⟨rfl,rfl⟩;go_wp2_with fail;refine (auMutex b hb _).mono ?_;rintro e w' ⟨⟨z,rfl,hz⟩,rfl⟩;obtain rfl:z=m:=by rw [hz Hmu.out];exact Hmm.out
   rw [Hmu.out];clear hz;go_wp2_with fail;go_quiet (fail);go_wp2_with fail;refine wp_gen (w0:=w0) ?_;intro wq hsq;refine wp_region_early (fun w'=>w'.cell? ⟨w.heap.size,4,none⟩=some (.int .u32 b)) [(0,true),(1,true),(2,true),(3,true),(4,true),(5,true),(6,false),(7,true),(8,true),(9,false)] (by kernel_rfl) (by kernel_rfl) (fun _ _ _ _ h=>h) own_cell ?_
   iterate 6 (first | refine early_S ?_ | refine early_N ?_)
   refine early_G rfl (by rfl) (fun K hK=>?_);go_wp2_with fail
   (first | refine ⟨own_cell,?_⟩ | skip)
   iterate 2 (first | refine early_S ?_ | refine early_N ?_)
   refine early_G rfl (by rfl) (fun K hK=>?_);go_wp2_with fail
   (first | refine ⟨own_cell,?_⟩ | skip)
   refine early_done ?_;go_wp2_with fail;go_ret;refine aft_both ?_ (auP_of ?_)
   ·first | (rw [Hr2.out];done) | (rw [Hr2.out];rfl)
   ·rw [Hl.out];dsimp only [setT,tkAt];exact own_left
 ·rw [Bool.not_eq_true] at hmu;have Hmu:=hid hmu;rw [hmu] at Hr;have Hr2:=hid (Hr.out.trans (show (x && (!false || decide (owAt A (b-32)≠0) && decide (owAt A (b-32)≠(a:Int)+1)))=x by simp));clear hmu
  cases x
  all_goals
   go_enter Tryz.func128,Tryz.ntmps128
   go_wp2_with fail;go_quiet (fail);go_wp2_with fail;refine (auActsX pb A a _ Hx.out w0 _ any (auP_of own_left) hA (by omega)).mono ?_;rintro e w' ⟨rfl,rfl⟩;go_wp2_with fail;refine (auMutex b hb _).mono ?_;rintro e w' ⟨⟨z,rfl,hz⟩,rfl⟩;rw [Hmu.out];clear hz;go_wp2_with fail;refine wp_gen (w0:=w0) ?_;intro wq hsq;refine wp_region_early (fun w'=>w'.cell? ⟨w.heap.size,4,none⟩=some (.int .u32 b)) [(0,true),(1,true),(2,true),(3,true),(4,true),(5,true),(6,false),(7,true),(8,true),(9,false)] (by kernel_rfl) (by kernel_rfl) (fun _ _ _ _ h=>h) own_cell ?_
   iterate 6 (first | refine early_S ?_ | refine early_N ?_)
   refine early_G rfl (by rfl) (fun K hK=>?_);go_wp2_with fail
   (first | refine ⟨own_cell,?_⟩ | skip)
   iterate 2 (first | refine early_S ?_ | refine early_N ?_)
   refine early_G rfl (by rfl) (fun K hK=>?_);go_wp2_with fail
   (first | refine ⟨own_cell,?_⟩ | skip)
   refine early_done ?_;go_wp2_with fail;go_ret;refine aft_both ?_ (auP_of ?_)
   ·first | (rw [Hr2.out];done) | (rw [Hr2.out];rfl)
   ·rw [Hl.out];dsimp only [setT,tkAt];exact own_left
theorem rule10 (A:Au) (a b v:Nat) (had:Bool):rule A 10 a b v had=(decide ((tkAt A a).st=2) && (if (tkAt A a).on=0 then decide (b=0) else !isMu (tkAt A a).on || decide (b=1) && decide (owAt A ((tkAt A a).on-32)=0))):=rfl
theorem learn10 (A:Au) (a b v:Nat):learn A 10 a b v={ setT A a { tkAt A a with st:=1 } with due:=if isMu (tkAt A a).on then ⟨12,a,(tkAt A a).on-32⟩ else A.due }:=rfl
theorem auRests10 (pb:Nat) (A:Au) (a b v:Nat) (had:Bool) (cy co:Int) (w0 w:World) (F:HP) (hs:Sat w0 w (auP pb A*F)) (hA:AOk A) (ha:a<64) (hb:b<2) :
  Calls Tryz.prog 128 #[.pointer (some ⟨pb,0,none⟩),evA 10 a b v cy co] w (Aft w0 pb A 10 a b v had F):=by
 have hs:=auP_out hs;have hlt:=hA.lt;have hm:=tkg_mem (l:=A.ts) (k:=a) (by omega);have hon:=hA.on _ hm;have Hr:=hid (rule10 A a b v had);have Hl:=hid (learn10 A a b v);have Hlt:=hid hlt;have i1:(a:Int)<64:=by omega
 have i2:decide (a<64)=true:=by simp;omega
 haveI:Lt a A.ts.length:=⟨by omega⟩;clear hlt hm;have h2:(tkg A.ts a).st=(tkAt A a).st:=rfl;have hon2:(tkg A.ts a).on=(tkAt A a).on:=rfl
 by_cases h1:(tkAt A a).st=2
 ·have e1:((tkg A.ts a).st==2)=true:=by rw [h2];simp [h1]
  rw [decide_eq_true h1,Bool.true_and] at Hr;clear h1 h2
  by_cases h3:(tkAt A a).on=0
  ·have e3:(((tkg A.ts a).on:Int)==0)=true:=by rw [hon2];simp [h3]
   rw [if_pos h3] at Hr;rw [h3,show isMu 0=false from rfl] at Hl;have Hl2:Hid (learn A 10 a b v=setT A a { tkAt A a with st:=1 }):=Hl;clear Hl;have Hmu:Hid (isMu (tkg A.ts a).on=false):=by rw [hon2,h3];rfl
   clear h3 hon2
   go_enter Tryz.func128,Tryz.ntmps128
   go_wp2_with fail;go_quiet (fail);go_wp2_with fail;refine (auMutex _ hon _).mono ?_;rintro e w' ⟨⟨z,rfl,hz⟩,rfl⟩;rw [Hmu.out];clear hz;go_wp2_with fail;go_ret;refine aft_both ?_ (auP_of ?_)
   ·rw [Hr.out];exact natBeq _ 0
   ·rw [Hl2.out];dsimp only [setT,tkAt];exact own_left
  ·have e3:(((tkg A.ts a).on:Int)==0)=false:=by rw [hon2];simp [h3]
   rw [if_neg h3] at Hr
   by_cases hmu:isMu (tkAt A a).on=true
   ·have hm32:(tkAt A a).on-32<32:=by simp [isMu] at hmu;omega
    have i3:(((tkAt A a).on-32:Nat):Int)<32:=by omega
    have i4:decide ((tkAt A a).on-32<32)=true:=by simp;omega
    haveI:Lt ((tkAt A a).on-32) A.ow.length:=⟨by rw [hA.lo];omega⟩;have Hmu:Hid (isMu (tkg A.ts a).on=true):=hmu;rw [hmu] at Hr Hl;have Hr2:Hid (rule A 10 a b v had=(decide (b=1) && decide (owg A.ow ((tkAt A a).on-32)=0))):=Hr;clear hmu Hr;have Hon2:=hid hon2;clear h3 hon2;generalize hmm:(tkAt A a).on-32=m at *;have Hmm:=hid hmm;clear hmm;have Hl2:Hid (learn A 10 a b v={ setT A a { tkAt A a with st:=1 } with due:=⟨12,a,m⟩ }):=Hl;clear Hl
    by_cases hb1:b=1
    all_goals
     first | (have f1:((b:Int)==1)=true:=by simp [hb1]) | (have f1:((b:Int)==1)=false:=by simp;omega)
     first | rw [decide_eq_true hb1,Bool.true_and] at Hr2 | rw [decide_eq_false hb1,Bool.false_and] at Hr2
     clear hb1
     go_enter Tryz.func128,Tryz.ntmps128
     go_wp2_with fail;go_quiet (fail);go_wp2_with fail;refine (auMutex _ hon _).mono ?_;rintro e w' ⟨⟨z,rfl,hz⟩,rfl⟩;obtain rfl:z=m:=by rw [hz Hmu.out];exact Hmm.out
     rw [Hmu.out];clear hz;go_wp2_with fail;go_ret;refine aft_both ?_ (auP_of ?_)
     ·first | (rw [Hr2.out];done) | (rw [Hr2.out];exact beqD _ _)
     ·rw [Hl2.out];dsimp only [setT,tkAt,duCells];exact own_left
   ·rw [Bool.not_eq_true] at hmu;have Hmu:Hid (isMu (tkg A.ts a).on=false):=hmu;rw [hmu] at Hr Hl;have Hr2:Hid (rule A 10 a b v had=true):=Hr;have Hl2:Hid (learn A 10 a b v=setT A a { tkAt A a with st:=1 }):=Hl;clear hmu Hr Hl h3 hon2
    go_enter Tryz.func128,Tryz.ntmps128
    go_wp2_with fail;go_quiet (fail);go_wp2_with fail;refine (auMutex _ hon _).mono ?_;rintro e w' ⟨⟨z,rfl,hz⟩,rfl⟩;rw [Hmu.out];clear hz;go_wp2_with fail;go_ret;refine aft_both ?_ (auP_of ?_)
    ·rw [Hr2.out]
    ·rw [Hl2.out];dsimp only [setT,tkAt,duCells];exact own_left
 ·have e1:((tkg A.ts a).st==2)=false:=by rw [h2];simp [h1]
  rw [decide_eq_false h1,Bool.false_and] at Hr;clear h1 h2 hon2;generalize hmu:isMu (tkg A.ts a).on=mu;have Hmu:=hid hmu;clear hmu
  cases mu
  all_goals
   go_enter Tryz.func128,Tryz.ntmps128
   go_wp2_with fail;go_quiet (fail);go_wp2_with fail;refine (auMutex _ hon _).mono ?_;rintro e w' ⟨⟨z,rfl,hz⟩,rfl⟩;rw [Hmu.out];clear hz;go_wp2_with fail;go_ret;exact aft_no Hr.out rfl own_left
theorem rule12 (A:Au) (a b v:Nat) (had:Bool):rule A 12 a b v had=(decide (owAt A b=0) && (had || acts A a)):=rfl
theorem rule13 (A:Au) (a b v:Nat) (had:Bool):rule A 13 a b v had=(decide (owAt A b=(a:Int)+1) && (decide ((tkAt A a).st=3) || acts A a)):=rfl
theorem learn12 (A:Au) (a b v:Nat):learn A 12 a b v={ A with ow:=A.ow.set b ((a:Int)+1) }:=rfl
theorem learn13 (A:Au) (a b v:Nat):learn A 13 a b v={ A with ow:=A.ow.set b 0 }:=rfl
theorem auOwns12 (pb:Nat) (A:Au) (a b v:Nat) (had:Bool) (cy co:Int) (w0 w:World) (F:HP) (hs:Sat w0 w (auP pb A*F)) (hA:AOk A) (ha:a<64) (hb:b<32) :
    Calls Tryz.prog 129 #[.pointer (some ⟨pb, 0, none⟩), evA 12 a b v cy co, .bool had] w (Aft w0 pb A 12 a b v had F) := by
  have hs := auP_out hs;have Hr := hid (rule12 A a b v had);have Hl := hid (learn12 A a b v);have i1:(b:Int)<32 := by omega
  have i2:decide (b<32)=true := by simp; omega
  haveI:Lt b A.ow.length := ⟨by rw [hA.lo]; omega⟩;have h2:owg A.ow b=owAt A b := rfl;generalize hx:acts A a=x at Hr;have Hx := hid hx;clear hx
  by_cases h1:owAt A b=0
  all_goals
    first | have e1:(owg A.ow b==0)=true := by rw [h2]; simp [h1]
          | have e1:(owg A.ow b==0)=false := by rw [h2]; simp [h1]
    first | rw [decide_eq_true h1, Bool.true_and] at Hr | rw [decide_eq_false h1, Bool.false_and] at Hr
    clear h1 h2
    cases had
    all_goals
      go_enter Tryz.func129, Tryz.ntmps129
      go_wp2_with fail;go_quiet (fail); go_wp2_with fail
      try
        refine (auActsX pb A a _ Hx.out w0 _ any (auP_of own_left) hA (by omega)).mono ?_;rintro e w' ⟨rfl, rfl⟩;go_wp2_with fail
      go_ret;refine aft_both ?_ (auP_of ?_)
      · first | (rw [Hr.out]; done) | (rw [Hr.out]; rfl)
      · rw [Hl.out]
        exact own_left
theorem auOwns13 (pb:Nat) (A:Au) (a b v:Nat) (had:Bool) (cy co:Int) (w0 w:World) (F:HP) (hs:Sat w0 w (auP pb A*F)) (hA:AOk A) (ha:a<64) (hb:b<32) :
  Calls Tryz.prog 129 #[.pointer (some ⟨pb,0,none⟩),evA 13 a b v cy co,.bool had] w (Aft w0 pb A 13 a b v had F):=by
 have hs:=auP_out hs;have Hr:=hid (rule13 A a b v had);have Hl:=hid (learn13 A a b v);have i1:(b:Int)<32:=by omega
 have i2:decide (b<32)=true:=by simp;omega
 have i3:(a:Int)<64:=by omega
 have i4:decide (a<64)=true:=by simp;omega
 haveI:Lt b A.ow.length:=⟨by rw [hA.lo];omega⟩;haveI:Lt a A.ts.length:=⟨by rw [hA.lt];omega⟩;have h2:owg A.ow b=owAt A b:=rfl;have h3:(tkg A.ts a).st=(tkAt A a).st:=rfl;generalize hx:acts A a=x at Hr;have Hx:=hid hx;clear hx
 by_cases h1:owAt A b=(a:Int)+1
 ·have e1:(owg A.ow b==(a:Int)+1)=true:=by rw [h2];simp [h1]
  rw [decide_eq_true h1,Bool.true_and] at Hr
  by_cases h4:(tkAt A a).st=3
  ·have e2:((tkg A.ts a).st==3)=true:=by rw [h3];simp [h4]
   rw [decide_eq_true h4,Bool.true_or] at Hr;clear h1 h2 h3 h4
   go_enter Tryz.func129,Tryz.ntmps129
   go_wp2_with fail;go_quiet (fail);go_wp2_with fail;refine wp_gen (w0:=w0) ?_;intro wq hsq;go_quiet (fail);go_wp2_with fail;go_ret;refine aft_both ?_ (auP_of ?_)
   ·first | (rw [Hr.out];done) | (rw [Hr.out];rfl)
   ·rw [Hl.out];exact own_left
  ·have e2:((tkg A.ts a).st==3)=false:=by rw [h3];simp [h4]
   rw [decide_eq_false h4,Bool.false_or] at Hr;clear h1 h2 h3 h4
   cases x
   all_goals
    go_enter Tryz.func129,Tryz.ntmps129
    go_wp2_with fail;go_quiet (fail);go_wp2_with fail;refine wp_gen (w0:=w0) ?_;intro wq hsq;go_quiet ((go_at_call 125;exact quiet_eq (auActsX pb A a _ Hx.out w0 _ any (auP_of own_left) hA (by omega))));go_wp2_with fail;go_ret;refine aft_both ?_ (auP_of ?_)
    ·first | (rw [Hr.out];done) | (rw [Hr.out];rfl)
    ·rw [Hl.out];exact own_left
 ·have e1:(owg A.ow b==(a:Int)+1)=false:=by rw [h2];simp [h1]
  rw [decide_eq_false h1,Bool.false_and] at Hr;clear h1 h2 h3
  go_enter Tryz.func129,Tryz.ntmps129
  go_wp2_with fail;go_quiet (fail);go_wp2_with fail;refine wp_gen (w0:=w0) ?_;intro wq hsq;go_quiet (fail);go_wp2_with fail;go_ret;refine aft_both ?_ (auP_of ?_)
  ·first | (rw [Hr.out];done) | (rw [Hr.out];rfl)
  ·rw [Hl.out];exact own_left
theorem auKeeps1 (pb:Nat) (A:Au) (a b v:Nat) (had:Bool) (cy co:Int) (w0 w:World) (F:HP) (hs:Sat w0 w (auP pb A*F)) (hA:AOk A) (hok:okN 1 a b v=true) (hv:v<4294967296) :
  Calls Tryz.prog 90 #[.pointer (some ⟨pb,0,none⟩),evA 1 a b v cy co,.bool had] w (Aft w0 pb A 1 a b v had F):=by
 have hs:=auP_out hs
 go_enter Tryz.func90,Tryz.ntmps90
 go_wp2_with fail;refine (auLines1 pb A a b v had cy co w0 _ F (auP_of (F:=F) own_left) hA (by simp [okN,shp,win] at hok;omega)).mono ?_;rintro e w' ⟨rfl,hy,hn⟩;go_wp2_with fail;go_ret;exact ⟨rfl,hy,hn⟩
theorem auKeeps2 (pb:Nat) (A:Au) (a b v:Nat) (had:Bool) (cy co:Int) (w0 w:World) (F:HP) (hs:Sat w0 w (auP pb A*F)) (hA:AOk A) (hok:okN 2 a b v=true) (hv:v<4294967296) :
  Calls Tryz.prog 90 #[.pointer (some ⟨pb,0,none⟩),evA 2 a b v cy co,.bool had] w (Aft w0 pb A 2 a b v had F):=by
 have hs:=auP_out hs;have hb:b<4294967296:=by simp [okN,shp,win] at hok;omega
 go_enter Tryz.func90,Tryz.ntmps90
 go_wp2_with fail;refine (auActs pb A b w0 _ any (auP_of own_left) hA hb).mono ?_;rintro e w' ⟨rfl,rfl⟩;go_wp2_with fail;go_ret;refine aft_both rfl (auP_of ?_);dsimp only [learn];exact own_left
theorem auKeeps3 (pb:Nat) (A:Au) (a b v:Nat) (had:Bool) (cy co:Int) (w0 w:World) (F:HP) (hs:Sat w0 w (auP pb A*F)) (hA:AOk A) (hok:okN 3 a b v=true) (hv:v<4294967296) :
  Calls Tryz.prog 90 #[.pointer (some ⟨pb,0,none⟩),evA 3 a b v cy co,.bool had] w (Aft w0 pb A 3 a b v had F):=by
 have hs:=auP_out hs
 go_enter Tryz.func90,Tryz.ntmps90
 go_wp2_with fail;refine (auLines3 pb A a b v had cy co w0 _ F (auP_of (F:=F) own_left) hA (by simp [okN,shp,win] at hok;omega)).mono ?_;rintro e w' ⟨rfl,hy,hn⟩;go_wp2_with fail;go_ret;exact ⟨rfl,hy,hn⟩
theorem auKeeps4 (pb:Nat) (A:Au) (a b v:Nat) (had:Bool) (cy co:Int) (w0 w:World) (F:HP) (hs:Sat w0 w (auP pb A*F)) (hA:AOk A) (hok:okN 4 a b v=true) (hv:v<4294967296) :
  Calls Tryz.prog 90 #[.pointer (some ⟨pb,0,none⟩),evA 4 a b v cy co,.bool had] w (Aft w0 pb A 4 a b v had F):=by
 have hs:=auP_out hs
 go_enter Tryz.func90,Tryz.ntmps90
 go_wp2_with fail;refine (auLines4 pb A a b v had cy co w0 _ F (auP_of (F:=F) own_left) (by simp [okN,shp,win] at hok;omega)).mono ?_;rintro e w' ⟨rfl,hy,hn⟩;go_wp2_with fail;go_ret;exact ⟨rfl,hy,hn⟩
theorem auKeeps5 (pb:Nat) (A:Au) (a b v:Nat) (had:Bool) (cy co:Int) (w0 w:World) (F:HP) (hs:Sat w0 w (auP pb A*F)) (hA:AOk A) (hok:okN 5 a b v=true) (hv:v<4294967296) :
  Calls Tryz.prog 90 #[.pointer (some ⟨pb,0,none⟩),evA 5 a b v cy co,.bool had] w (Aft w0 pb A 5 a b v had F):=by
 have hs:=auP_out hs
 go_enter Tryz.func90,Tryz.ntmps90
 go_wp2_with fail;refine (auChange pb A a b v had cy co w0 _ F (auP_of (F:=F) own_left) hA (by simp [okN,shp,win] at hok;omega) (by simp [okN,shp,win] at hok;omega)).mono ?_;rintro e w' ⟨rfl,hy,hn⟩;go_wp2_with fail;go_ret;exact ⟨rfl,hy,hn⟩
theorem auKeeps6 (pb:Nat) (A:Au) (a b v:Nat) (had:Bool) (cy co:Int) (w0 w:World) (F:HP) (hs:Sat w0 w (auP pb A*F)) (hA:AOk A) (hok:okN 6 a b v=true) (hv:v<4294967296) :
  Calls Tryz.prog 90 #[.pointer (some ⟨pb,0,none⟩),evA 6 a b v cy co,.bool had] w (Aft w0 pb A 6 a b v had F):=by
 have hs:=auP_out hs
 go_enter Tryz.func90,Tryz.ntmps90
 go_wp2_with fail;refine (auJobs6 pb A a b v had cy co w0 _ F (auP_of (F:=F) own_left) hA (by simp [okN,shp,win] at hok;omega) hv).mono ?_;rintro e w' ⟨rfl,hy,hn⟩;go_wp2_with fail;go_ret;exact ⟨rfl,hy,hn⟩
theorem auKeeps7 (pb:Nat) (A:Au) (a b v:Nat) (had:Bool) (cy co:Int) (w0 w:World) (F:HP) (hs:Sat w0 w (auP pb A*F)) (hA:AOk A) (hok:okN 7 a b v=true) (hv:v<4294967296) :
  Calls Tryz.prog 90 #[.pointer (some ⟨pb,0,none⟩),evA 7 a b v cy co,.bool had] w (Aft w0 pb A 7 a b v had F):=by
 have hs:=auP_out hs
 go_enter Tryz.func90,Tryz.ntmps90
 go_wp2_with fail;refine (auJobs7 pb A a b v had cy co w0 _ F (auP_of (F:=F) own_left) hA (by simp [okN,shp,win] at hok;omega) hv).mono ?_;rintro e w' ⟨rfl,hy,hn⟩;go_wp2_with fail;go_ret;exact ⟨rfl,hy,hn⟩
theorem auKeeps8 (pb:Nat) (A:Au) (a b v:Nat) (had:Bool) (cy co:Int) (w0 w:World) (F:HP) (hs:Sat w0 w (auP pb A*F)) (hA:AOk A) (hok:okN 8 a b v=true) (hv:v<4294967296) :
  Calls Tryz.prog 90 #[.pointer (some ⟨pb,0,none⟩),evA 8 a b v cy co,.bool had] w (Aft w0 pb A 8 a b v had F):=by
 have hs:=auP_out hs
 go_enter Tryz.func90,Tryz.ntmps90
 go_wp2_with fail;refine (auJobs8 pb A a b v had cy co w0 _ F (auP_of (F:=F) own_left) hA (by simp [okN,shp,win] at hok;omega) hv).mono ?_;rintro e w' ⟨rfl,hy,hn⟩;go_wp2_with fail;go_ret;exact ⟨rfl,hy,hn⟩
theorem auKeeps9 (pb:Nat) (A:Au) (a b v:Nat) (had:Bool) (cy co:Int) (w0 w:World) (F:HP) (hs:Sat w0 w (auP pb A*F)) (hA:AOk A) (hok:okN 9 a b v=true) (hv:v<4294967296) :
  Calls Tryz.prog 90 #[.pointer (some ⟨pb,0,none⟩),evA 9 a b v cy co,.bool had] w (Aft w0 pb A 9 a b v had F):=by
 have hs:=auP_out hs
 go_enter Tryz.func90,Tryz.ntmps90
 go_wp2_with fail;refine (auRests9 pb A a b v had cy co w0 _ F (auP_of (F:=F) own_left) hA (by simp [okN,shp,win] at hok;omega) (by simp [okN,shp,win] at hok;omega)).mono ?_;rintro e w' ⟨rfl,hy,hn⟩;go_wp2_with fail;go_ret;exact ⟨rfl,hy,hn⟩
theorem auKeeps10 (pb:Nat) (A:Au) (a b v:Nat) (had:Bool) (cy co:Int) (w0 w:World) (F:HP) (hs:Sat w0 w (auP pb A*F)) (hA:AOk A) (hok:okN 10 a b v=true) (hv:v<4294967296) :
  Calls Tryz.prog 90 #[.pointer (some ⟨pb,0,none⟩),evA 10 a b v cy co,.bool had] w (Aft w0 pb A 10 a b v had F):=by
 have hs:=auP_out hs
 go_enter Tryz.func90,Tryz.ntmps90
 go_wp2_with fail;refine (auRests10 pb A a b v had cy co w0 _ F (auP_of (F:=F) own_left) hA (by simp [okN,shp,win] at hok;omega) (by simp [okN,shp,win] at hok;omega)).mono ?_;rintro e w' ⟨rfl,hy,hn⟩;go_wp2_with fail;go_ret;exact ⟨rfl,hy,hn⟩
theorem auKeeps12 (pb:Nat) (A:Au) (a b v:Nat) (had:Bool) (cy co:Int) (w0 w:World) (F:HP) (hs:Sat w0 w (auP pb A*F)) (hA:AOk A) (hok:okN 12 a b v=true) (hv:v<4294967296) :
  Calls Tryz.prog 90 #[.pointer (some ⟨pb,0,none⟩),evA 12 a b v cy co,.bool had] w (Aft w0 pb A 12 a b v had F):=by
 have hs:=auP_out hs
 go_enter Tryz.func90,Tryz.ntmps90
 go_wp2_with fail;refine (auOwns12 pb A a b v had cy co w0 _ F (auP_of (F:=F) own_left) hA (by simp [okN,shp,win] at hok;omega) (by simp [okN,shp,win] at hok;omega)).mono ?_;rintro e w' ⟨rfl,hy,hn⟩;go_wp2_with fail;go_ret;exact ⟨rfl,hy,hn⟩
theorem auKeeps13 (pb:Nat) (A:Au) (a b v:Nat) (had:Bool) (cy co:Int) (w0 w:World) (F:HP) (hs:Sat w0 w (auP pb A*F)) (hA:AOk A) (hok:okN 13 a b v=true) (hv:v<4294967296) :
  Calls Tryz.prog 90 #[.pointer (some ⟨pb,0,none⟩),evA 13 a b v cy co,.bool had] w (Aft w0 pb A 13 a b v had F):=by
 have hs:=auP_out hs
 go_enter Tryz.func90,Tryz.ntmps90
 go_wp2_with fail;refine (auOwns13 pb A a b v had cy co w0 _ F (auP_of (F:=F) own_left) hA (by simp [okN,shp,win] at hok;omega) (by simp [okN,shp,win] at hok;omega)).mono ?_;rintro e w' ⟨rfl,hy,hn⟩;go_wp2_with fail;go_ret;exact ⟨rfl,hy,hn⟩
theorem auKeeps14 (pb:Nat) (A:Au) (a b v:Nat) (had:Bool) (cy co:Int) (w0 w:World) (F:HP) (hs:Sat w0 w (auP pb A*F)) (hA:AOk A) (hok:okN 14 a b v=true) (hv:v<4294967296) :
  Calls Tryz.prog 90 #[.pointer (some ⟨pb,0,none⟩),evA 14 a b v cy co,.bool had] w (Aft w0 pb A 14 a b v had F):=by
 have hs:=auP_out hs;have ha:a<4294967296:=by simp [okN,shp,win] at hok;omega
 go_enter Tryz.func90,Tryz.ntmps90
 go_wp2_with fail;refine (auActs pb A a w0 _ any (auP_of own_left) hA ha).mono ?_;rintro e w' ⟨rfl,rfl⟩;go_wp2_with fail;go_ret;refine aft_both rfl (auP_of ?_);dsimp only [learn];exact own_left
theorem auKeeps15 (pb:Nat) (A:Au) (a b v:Nat) (had:Bool) (cy co:Int) (w0 w:World) (F:HP) (hs:Sat w0 w (auP pb A*F)) (hA:AOk A) (hok:okN 15 a b v=true) (hv:v<4294967296) :
  Calls Tryz.prog 90 #[.pointer (some ⟨pb,0,none⟩),evA 15 a b v cy co,.bool had] w (Aft w0 pb A 15 a b v had F):=by
 have hs:=auP_out hs;have ha:a<4294967296:=by simp [okN,shp,win] at hok;omega
 go_enter Tryz.func90,Tryz.ntmps90
 go_wp2_with fail;refine (auActs pb A a w0 _ any (auP_of own_left) hA ha).mono ?_;rintro e w' ⟨rfl,rfl⟩;go_wp2_with fail;go_ret;refine aft_both rfl (auP_of ?_);dsimp only [learn];exact own_left
theorem auKeeps18 (pb:Nat) (A:Au) (a b v:Nat) (had:Bool) (cy co:Int) (w0 w:World) (F:HP) (hs:Sat w0 w (auP pb A*F)) (hA:AOk A) (hok:okN 18 a b v=true) (hv:v<4294967296) :
  Calls Tryz.prog 90 #[.pointer (some ⟨pb,0,none⟩),evA 18 a b v cy co,.bool had] w (Aft w0 pb A 18 a b v had F):=by
 have hs:=auP_out hs
 go_enter Tryz.func90,Tryz.ntmps90
 go_wp2_with fail;go_ret;refine aft_both rfl (auP_of ?_);dsimp only [learn];exact own_left
theorem auKeeps19 (pb:Nat) (A:Au) (a b v:Nat) (had:Bool) (cy co:Int) (w0 w:World) (F:HP) (hs:Sat w0 w (auP pb A*F)) (hA:AOk A) (hok:okN 19 a b v=true) (hv:v<4294967296) :
  Calls Tryz.prog 90 #[.pointer (some ⟨pb,0,none⟩),evA 19 a b v cy co,.bool had] w (Aft w0 pb A 19 a b v had F):=by
 have hs:=auP_out hs;have ha:a<4294967296:=by simp [okN,shp,win] at hok;omega
 go_enter Tryz.func90,Tryz.ntmps90
 go_wp2_with fail;refine (auActs pb A a w0 _ any (auP_of own_left) hA ha).mono ?_;rintro e w' ⟨rfl,rfl⟩;go_wp2_with fail;go_ret;refine aft_both rfl (auP_of ?_);dsimp only [learn];exact own_left
theorem auKeeps20 (pb:Nat) (A:Au) (a b v:Nat) (had:Bool) (cy co:Int) (w0 w:World) (F:HP) (hs:Sat w0 w (auP pb A*F)) (hA:AOk A) (hok:okN 20 a b v=true) (hv:v<4294967296) :
  Calls Tryz.prog 90 #[.pointer (some ⟨pb,0,none⟩),evA 20 a b v cy co,.bool had] w (Aft w0 pb A 20 a b v had F):=by
 have hs:=auP_out hs;have hb:b<4294967296:=by simp [okN,shp,win] at hok;omega
 go_enter Tryz.func90,Tryz.ntmps90
 go_wp2_with fail;refine (auActs pb A b w0 _ any (auP_of own_left) hA hb).mono ?_;rintro e w' ⟨rfl,rfl⟩;go_wp2_with fail;go_ret;refine aft_both rfl (auP_of ?_);dsimp only [learn];exact own_left
theorem auKeeps21 (pb:Nat) (A:Au) (a b v:Nat) (had:Bool) (cy co:Int) (w0 w:World) (F:HP) (hs:Sat w0 w (auP pb A*F)) (hA:AOk A) (hok:okN 21 a b v=true) (hv:v<4294967296) :
  Calls Tryz.prog 90 #[.pointer (some ⟨pb,0,none⟩),evA 21 a b v cy co,.bool had] w (Aft w0 pb A 21 a b v had F):=by
 have hs:=auP_out hs
 go_enter Tryz.func90,Tryz.ntmps90
 go_wp2_with fail;refine (auOver pb A 21 a b v (by simp [okN,shp,win] at hok;omega) had cy co w0 _ F (auP_of (F:=F) own_left) hA (by simp [okN,shp,win] at hok;omega)).mono ?_;rintro e w' ⟨rfl,hy,hn⟩;go_wp2_with fail;go_ret;exact ⟨rfl,hy,hn⟩
theorem auKeeps22 (pb:Nat) (A:Au) (a b v:Nat) (had:Bool) (cy co:Int) (w0 w:World) (F:HP) (hs:Sat w0 w (auP pb A*F)) (hA:AOk A) (hok:okN 22 a b v=true) (hv:v<4294967296) :
  Calls Tryz.prog 90 #[.pointer (some ⟨pb,0,none⟩),evA 22 a b v cy co,.bool had] w (Aft w0 pb A 22 a b v had F):=by
 have hs:=auP_out hs
 go_enter Tryz.func90,Tryz.ntmps90
 go_wp2_with fail;refine (auOver pb A 22 a b v (by simp [okN,shp,win] at hok;omega) had cy co w0 _ F (auP_of (F:=F) own_left) hA (by simp [okN,shp,win] at hok;omega)).mono ?_;rintro e w' ⟨rfl,hy,hn⟩;go_wp2_with fail;go_ret;exact ⟨rfl,hy,hn⟩
theorem auKeeps23 (pb:Nat) (A:Au) (a b v:Nat) (had:Bool) (cy co:Int) (w0 w:World) (F:HP) (hs:Sat w0 w (auP pb A*F)) (hA:AOk A) (hok:okN 23 a b v=true) (hv:v<4294967296) :
  Calls Tryz.prog 90 #[.pointer (some ⟨pb,0,none⟩),evA 23 a b v cy co,.bool had] w (Aft w0 pb A 23 a b v had F):=by
 have hs:=auP_out hs;have ha:a<4294967296:=by simp [okN,shp,win] at hok;omega
 go_enter Tryz.func90,Tryz.ntmps90
 go_wp2_with fail;refine (auActs pb A a w0 _ any (auP_of own_left) hA ha).mono ?_;rintro e w' ⟨rfl,rfl⟩;go_wp2_with fail;go_ret;refine aft_both rfl (auP_of ?_);dsimp only [learn];exact own_left
theorem auKeeps24 (pb:Nat) (A:Au) (a b v:Nat) (had:Bool) (cy co:Int) (w0 w:World) (F:HP) (hs:Sat w0 w (auP pb A*F)) (hA:AOk A) (hok:okN 24 a b v=true) (hv:v<4294967296) :
  Calls Tryz.prog 90 #[.pointer (some ⟨pb,0,none⟩),evA 24 a b v cy co,.bool had] w (Aft w0 pb A 24 a b v had F):=by
 have hs:=auP_out hs
 go_enter Tryz.func90,Tryz.ntmps90
 go_wp2_with fail;go_ret;refine aft_both rfl (auP_of ?_);dsimp only [learn];exact own_left
theorem bneD (x y:Int):(x != y)=decide (x≠y):=by rw [Bool.eq_iff_iff];simp
theorem rule11 (A:Au) (a b v:Nat) (had:Bool):rule A 11 a b v had=decide ((tkAt A a).lev≠(b:Int)+1):=rfl
theorem auKeeps11 (pb:Nat) (A:Au) (a b v:Nat) (had:Bool) (cy co:Int) (w0 w:World) (F:HP) (hs:Sat w0 w (auP pb A*F)) (hA:AOk A) (hok:okN 11 a b v=true) (hv:v<4294967296) :
  Calls Tryz.prog 90 #[.pointer (some ⟨pb,0,none⟩),evA 11 a b v cy co,.bool had] w (Aft w0 pb A 11 a b v had F):=by
 have hs:=auP_out hs;have ha:a<64:=by simp [okN,shp,win] at hok;omega
 have hb:b<32:=by simp [okN,shp,win] at hok;omega
 have Hr:=hid (rule11 A a b v had);have i1:(a:Int)<64:=by omega
 have i2:decide (a<64)=true:=by simp;omega
 haveI:Lt a A.ts.length:=⟨by rw [hA.lt];omega⟩
 go_enter Tryz.func90,Tryz.ntmps90
 go_wp2_with fail;go_quiet (fail);go_wp2_with fail;go_ret;refine aft_both ?_ (auP_of ?_)
 ·rw [Hr.out];exact bneD _ _
 ·dsimp only [learn,setT,tkAt];exact own_left
theorem rule16 (A:Au) (a b v:Nat) (had:Bool):rule A 16 a b v had=(decide (a<64∧(tkAt A a).st=2∧(tkAt A a).on=96+b) || acts A a):=rfl
theorem rule17 (A:Au) (a b v:Nat) (had:Bool):rule A 17 a b v had=(decide (a<64∧(tkAt A a).st=2∧(tkAt A a).on=128+b) || acts A a):=rfl
theorem auKeeps16 (pb:Nat) (A:Au) (a b v:Nat) (had:Bool) (cy co:Int) (w0 w:World) (F:HP) (hs:Sat w0 w (auP pb A*F)) (hA:AOk A) (hok:okN 16 a b v=true) (hv:v<4294967296) :
  Calls Tryz.prog 90 #[.pointer (some ⟨pb,0,none⟩),evA 16 a b v cy co,.bool had] w (Aft w0 pb A 16 a b v had F):=by
 have hs:=auP_out hs;have ha:a<80:=by simp [okN,shp,win] at hok;omega
 have hb:b<32:=by simp [okN,shp,win] at hok;omega
 have Hr:=hid (rule16 A a b v had);have h3:(tkg A.ts a).st=(tkAt A a).st:=rfl;have h4:(tkg A.ts a).on=(tkAt A a).on:=rfl
 by_cases h1:a<64
 ·have i1:(a:Int)<64:=by omega
  have i2:decide (a<64)=true:=by simp;omega
  have i3:decide ((a:Int)<64)=true:=by simp;omega
  haveI:Lt a A.ts.length:=⟨by rw [hA.lt];omega⟩;have hon:=hA.on _ (tkg_mem (l:=A.ts) (k:=a) this.lt)
  by_cases h2:(tkAt A a).st=2
  ·have e2:((tkg A.ts a).st==2)=true:=by rw [h3];simp [h2]
   by_cases h5:(tkAt A a).on=96+b
   ·have e3:(((tkg A.ts a).on:Int)==96+(b:Int))=true:=by rw [h4];simp;omega
    rw [decide_eq_true ⟨h1,h2,h5⟩,Bool.true_or] at Hr;clear h1 h2 h3 h4 h5
    go_enter Tryz.func90,Tryz.ntmps90
    go_wp2_with fail;go_quiet (fail);go_wp2_with fail
    skip
    go_ret;refine aft_both ?_ (auP_of ?_)
    ·first | (rw [Hr.out];done) | (rw [Hr.out];rfl)
    ·dsimp only [learn];exact own_left
   ·have e3:(((tkg A.ts a).on:Int)==96+(b:Int))=false:=by rw [h4];simp;omega
    rw [decide_eq_false (fun h=>h5 h.2.2),Bool.false_or] at Hr;clear h1 h2 h3 h4 h5
    go_enter Tryz.func90,Tryz.ntmps90
    go_wp2_with fail;go_quiet (fail);go_wp2_with fail;refine (auActs pb A a w0 _ any (auP_of own_left) hA (by omega)).mono ?_;rintro e w' ⟨rfl,rfl⟩;go_wp2_with fail;go_ret;refine aft_both ?_ (auP_of ?_)
    ·first | (rw [Hr.out];done) | (rw [Hr.out];rfl)
    ·dsimp only [learn];exact own_left
  ·have e2:((tkg A.ts a).st==2)=false:=by rw [h3];simp [h2]
   rw [decide_eq_false (fun h=>h2 h.2.1),Bool.false_or] at Hr;clear h1 h2 h3 h4
   go_enter Tryz.func90,Tryz.ntmps90
   go_wp2_with fail;go_quiet (fail);go_wp2_with fail;refine (auActs pb A a w0 _ any (auP_of own_left) hA (by omega)).mono ?_;rintro e w' ⟨rfl,rfl⟩;go_wp2_with fail;go_ret;refine aft_both ?_ (auP_of ?_)
   ·first | (rw [Hr.out];done) | (rw [Hr.out];rfl)
   ·dsimp only [learn];exact own_left
 ·have i3:decide ((a:Int)<64)=false:=by simp;omega
  rw [decide_eq_false (fun h=>h1 h.1),Bool.false_or] at Hr;clear h1 h3 h4
  go_enter Tryz.func90,Tryz.ntmps90
  go_wp2_with fail;go_quiet (fail);go_wp2_with fail;refine (auActs pb A a w0 _ any (auP_of own_left) hA (by omega)).mono ?_;rintro e w' ⟨rfl,rfl⟩;go_wp2_with fail;go_ret;refine aft_both ?_ (auP_of ?_)
  ·first | (rw [Hr.out];done) | (rw [Hr.out];rfl)
  ·dsimp only [learn];exact own_left
theorem auKeeps17 (pb:Nat) (A:Au) (a b v:Nat) (had:Bool) (cy co:Int) (w0 w:World) (F:HP) (hs:Sat w0 w (auP pb A*F)) (hA:AOk A) (hok:okN 17 a b v=true) (hv:v<4294967296) :
  Calls Tryz.prog 90 #[.pointer (some ⟨pb,0,none⟩),evA 17 a b v cy co,.bool had] w (Aft w0 pb A 17 a b v had F):=by
 have hs:=auP_out hs;have ha:a<80:=by simp [okN,shp,win] at hok;omega
 have hb:b<32:=by simp [okN,shp,win] at hok;omega
 have Hr:=hid (rule17 A a b v had);have h3:(tkg A.ts a).st=(tkAt A a).st:=rfl;have h4:(tkg A.ts a).on=(tkAt A a).on:=rfl
 by_cases h1:a<64
 ·have i1:(a:Int)<64:=by omega
  have i2:decide (a<64)=true:=by simp;omega
  have i3:decide ((a:Int)<64)=true:=by simp;omega
  haveI:Lt a A.ts.length:=⟨by rw [hA.lt];omega⟩;have hon:=hA.on _ (tkg_mem (l:=A.ts) (k:=a) this.lt)
  by_cases h2:(tkAt A a).st=2
  ·have e2:((tkg A.ts a).st==2)=true:=by rw [h3];simp [h2]
   by_cases h5:(tkAt A a).on=128+b
   ·have e3:(((tkg A.ts a).on:Int)==128+(b:Int))=true:=by rw [h4];simp;omega
    rw [decide_eq_true ⟨h1,h2,h5⟩,Bool.true_or] at Hr;clear h1 h2 h3 h4 h5
    go_enter Tryz.func90,Tryz.ntmps90
    go_wp2_with fail;go_quiet (fail);go_wp2_with fail
    skip
    go_ret;refine aft_both ?_ (auP_of ?_)
    ·first | (rw [Hr.out];done) | (rw [Hr.out];rfl)
    ·dsimp only [learn];exact own_left
   ·have e3:(((tkg A.ts a).on:Int)==128+(b:Int))=false:=by rw [h4];simp;omega
    rw [decide_eq_false (fun h=>h5 h.2.2),Bool.false_or] at Hr;clear h1 h2 h3 h4 h5
    go_enter Tryz.func90,Tryz.ntmps90
    go_wp2_with fail;go_quiet (fail);go_wp2_with fail;refine (auActs pb A a w0 _ any (auP_of own_left) hA (by omega)).mono ?_;rintro e w' ⟨rfl,rfl⟩;go_wp2_with fail;go_ret;refine aft_both ?_ (auP_of ?_)
    ·first | (rw [Hr.out];done) | (rw [Hr.out];rfl)
    ·dsimp only [learn];exact own_left
  ·have e2:((tkg A.ts a).st==2)=false:=by rw [h3];simp [h2]
   rw [decide_eq_false (fun h=>h2 h.2.1),Bool.false_or] at Hr;clear h1 h2 h3 h4
   go_enter Tryz.func90,Tryz.ntmps90
   go_wp2_with fail;go_quiet (fail);go_wp2_with fail;refine (auActs pb A a w0 _ any (auP_of own_left) hA (by omega)).mono ?_;rintro e w' ⟨rfl,rfl⟩;go_wp2_with fail;go_ret;refine aft_both ?_ (auP_of ?_)
   ·first | (rw [Hr.out];done) | (rw [Hr.out];rfl)
   ·dsimp only [learn];exact own_left
 ·have i3:decide ((a:Int)<64)=false:=by simp;omega
  rw [decide_eq_false (fun h=>h1 h.1),Bool.false_or] at Hr;clear h1 h3 h4
  go_enter Tryz.func90,Tryz.ntmps90
  go_wp2_with fail;go_quiet (fail);go_wp2_with fail;refine (auActs pb A a w0 _ any (auP_of own_left) hA (by omega)).mono ?_;rintro e w' ⟨rfl,rfl⟩;go_wp2_with fail;go_ret;refine aft_both ?_ (auP_of ?_)
  ·first | (rw [Hr.out];done) | (rw [Hr.out];rfl)
  ·dsimp only [learn];exact own_left
theorem auKeeps (pb:Nat) (A:Au) (k a b v:Nat) (hk:1≤k∧k≤24) (had:Bool) (cy co:Int) (w0 w:World) (F:HP) (hs:Sat w0 w (auP pb A*F)) (hA:AOk A) (hok:okN k a b v=true) (hv:v<4294967296) :
  Calls Tryz.prog 90 #[.pointer (some ⟨pb,0,none⟩),evA k a b v cy co,.bool had] w (Aft w0 pb A k a b v had F):=by
 have h:k=1∨k=2∨k=3∨k=4∨k=5∨k=6∨k=7∨k=8∨k=9∨k=10∨k=11∨k=12∨k=13∨k=14∨k=15∨k=16∨k=17∨k=18∨k=19∨k=20∨k=21∨k=22∨k=23∨k=24:=by omega
 rcases h with rfl | rfl | rfl | rfl | rfl | rfl | rfl | rfl | rfl | rfl | rfl | rfl | rfl | rfl | rfl | rfl | rfl | rfl | rfl | rfl | rfl | rfl | rfl | rfl
 ·exact auKeeps1 pb A a b v had cy co w0 w F hs hA hok hv
 ·exact auKeeps2 pb A a b v had cy co w0 w F hs hA hok hv
 ·exact auKeeps3 pb A a b v had cy co w0 w F hs hA hok hv
 ·exact auKeeps4 pb A a b v had cy co w0 w F hs hA hok hv
 ·exact auKeeps5 pb A a b v had cy co w0 w F hs hA hok hv
 ·exact auKeeps6 pb A a b v had cy co w0 w F hs hA hok hv
 ·exact auKeeps7 pb A a b v had cy co w0 w F hs hA hok hv
 ·exact auKeeps8 pb A a b v had cy co w0 w F hs hA hok hv
 ·exact auKeeps9 pb A a b v had cy co w0 w F hs hA hok hv
 ·exact auKeeps10 pb A a b v had cy co w0 w F hs hA hok hv
 ·exact auKeeps11 pb A a b v had cy co w0 w F hs hA hok hv
 ·exact auKeeps12 pb A a b v had cy co w0 w F hs hA hok hv
 ·exact auKeeps13 pb A a b v had cy co w0 w F hs hA hok hv
 ·exact auKeeps14 pb A a b v had cy co w0 w F hs hA hok hv
 ·exact auKeeps15 pb A a b v had cy co w0 w F hs hA hok hv
 ·exact auKeeps16 pb A a b v had cy co w0 w F hs hA hok hv
 ·exact auKeeps17 pb A a b v had cy co w0 w F hs hA hok hv
 ·exact auKeeps18 pb A a b v had cy co w0 w F hs hA hok hv
 ·exact auKeeps19 pb A a b v had cy co w0 w F hs hA hok hv
 ·exact auKeeps20 pb A a b v had cy co w0 w F hs hA hok hv
 ·exact auKeeps21 pb A a b v had cy co w0 w F hs hA hok hv
 ·exact auKeeps22 pb A a b v had cy co w0 w F hs hA hok hv
 ·exact auKeeps23 pb A a b v had cy co w0 w F hs hA hok hv
 ·exact auKeeps24 pb A a b v had cy co w0 w F hs hA hok hv
end Go.Proofs.YtkeommmigopnkaaGreatDoor
namespace Go.Au
structure TkOk (t:Tk):Prop where
 st:0≤t.st∧t.st≤3
 late:0≤t.late∧t.late≤255
 on:t.on<160
 job:t.job<4294967296
 lev:0≤t.lev∧t.lev≤32
theorem AOk.tk {A:Au} (h:AOk A):∀ t∈A.ts,TkOk t:=fun t ht=>⟨h.st t ht,h.late t ht,h.on t ht,h.job t ht,h.lev t ht⟩
theorem tk0_ok:TkOk tk0:=⟨by decide,by decide,by decide,by decide,by decide⟩
theorem AOk.at_ {A:Au} (h:AOk A) (x:Nat):TkOk (tkAt A x):=by
 unfold tkAt tkg
 by_cases hx:x<A.ts.length
 ·have e:A.ts.getD x tk0=A.ts[x]:=by simp [List.getD,hx]
  rw [e];exact h.tk _ (List.getElem_mem hx)
 ·have e:A.ts.getD x tk0=tk0:=by simp [List.getD,List.getElem?_eq_none (by omega:A.ts.length≤x)]
  rw [e];exact tk0_ok
theorem AOk.setT {A:Au} (h:AOk A) (x:Nat) {t:Tk} (ht:TkOk t):AOk (setT A x t):=by
 have hm:∀ u∈A.ts.set x t,TkOk u:=fun u hu=>by
  rcases List.mem_or_eq_of_mem_set hu with h1 | rfl
  ·exact h.tk u h1
  ·exact ht
 exact ⟨by simp [Au.setT,h.lt],h.lo,h.lp,fun u hu=>(hm u hu).st,fun u hu=>(hm u hu).late,fun u hu=>(hm u hu).on,fun u hu=>(hm u hu).job,fun u hu=>(hm u hu).lev,h.own,h.isr,h.run,h.co,h.cy,h.dk,h.da,h.db,h.dz⟩
theorem AOk.setDue {A:Au} (h:AOk A) {d:Du} (h1:1≤d.k∧d.k≤24) (h2:d.a<256) (h3:d.b<256):AOk { A with due:=d } :=
 ⟨h.lt,h.lo,h.lp,h.st,h.late,h.on,h.job,h.lev,h.own,h.isr,h.run,h.co,h.cy,⟨Int.le_trans (by decide) h1.1,h1.2⟩,h2,h3,fun (e:d.k=0)=>by omega⟩
theorem AOk.noDue {A:Au} (h:AOk A):AOk { A with due:=du0 } :=
 ⟨h.lt,h.lo,h.lp,h.st,h.late,h.on,h.job,h.lev,h.own,h.isr,h.run,h.co,h.cy,show (0:Int)≤0∧(0:Int)≤24 by decide,show (0:Nat)<256 by decide,show (0:Nat)<256 by decide,fun _=>rfl⟩
theorem AOk.setOw {A:Au} (h:AOk A) (y:Nat) {o:Int} (ho:0≤o∧o≤64):AOk { A with ow:=A.ow.set y o } :=
 ⟨h.lt,by simp [h.lo],h.lp,h.st,h.late,h.on,h.job,h.lev,fun x hx=>by
  rcases List.mem_or_eq_of_mem_set hx with h1 | rfl
  ·exact h.own x h1
  ·exact ho,h.isr,h.run,h.co,h.cy,h.dk,h.da,h.db,h.dz⟩
theorem AOk.setPn {A:Au} (h:AOk A) (y:Nat) (x:Bool):AOk { A with pn:=A.pn.set y x } :=
 ⟨h.lt,h.lo,by simp [h.lp],h.st,h.late,h.on,h.job,h.lev,h.own,h.isr,h.run,h.co,h.cy,h.dk,h.da,h.db,h.dz⟩
theorem AOk.setIsr {A:Au} (h:AOk A) {x:Int} (hx:0≤x∧x≤16):AOk { A with isr:=x } :=
 ⟨h.lt,h.lo,h.lp,h.st,h.late,h.on,h.job,h.lev,h.own,hx,h.run,h.co,h.cy,h.dk,h.da,h.db,h.dz⟩
theorem AOk.setRun {A:Au} (h:AOk A) {x:Int} (hx:0≤x∧x≤64):AOk { A with run:=x } :=
 ⟨h.lt,h.lo,h.lp,h.st,h.late,h.on,h.job,h.lev,h.own,h.isr,hx,h.co,h.cy,h.dk,h.da,h.db,h.dz⟩
theorem aok_learn {A:Au} (h:AOk A) (k a b v:Nat) (hk:1≤k∧k≤24) (hok:okN k a b v=true) (hv:v<4294967296):AOk (learn A k a b v):=by
 have ht:=h.at_ a;have hk':k=1∨k=2∨k=3∨k=4∨k=5∨k=6∨k=7∨k=8∨k=9∨k=10∨k=11∨k=12∨k=13∨k=14∨k=15∨k=16∨k=17∨k=18∨k=19∨k=20∨k=21∨k=22∨k=23∨k=24:=by omega
 rcases hk' with rfl | rfl | rfl | rfl | rfl | rfl | rfl | rfl | rfl | rfl | rfl | rfl | rfl | rfl | rfl | rfl | rfl | rfl | rfl | rfl | rfl | rfl | rfl | rfl
 ·exact h.setPn a true
 ·exact h
 ·have ha:a<16:=by simp [okN,shp,win] at hok;omega
  exact (h.setPn a false).setIsr (x:=(a:Int)+1) (by omega)
 ·exact h.setIsr (x:=0) (by omega)
 ·have ha:a<64∨a=255:=by simp [okN,shp,win] at hok;omega
  exact h.setRun (x:=if a=255 then 0 else (a:Int)+1) (by split<;>omega)
 ·have hl:=ht.late;exact h.setT a ⟨show (0:Int)≤1∧(1:Int)≤3 by decide,show 0≤max ((tkAt A a).late-1) 0∧max ((tkAt A a).late-1) 0≤255 by omega,ht.on,hv,ht.lev⟩
 ·have hv:v≤255:=by simp [okN,shp,win] at hok;omega
  exact h.setT a ⟨ht.st,show (0:Int)≤v∧(v:Int)≤255 by omega,ht.on,ht.job,ht.lev⟩
 ·have ha:a<64:=by simp [okN,shp,win] at hok;omega
  have h1:AOk (setT A a { tkAt A a with st:=0 }):=h.setT a ⟨show (0:Int)≤0∧(0:Int)≤3 by decide,ht.late,ht.on,ht.job,ht.lev⟩
  by_cases hl:(tkAt A a).late > 0
  ·have e:learn A 8 a b v={ setT A a { tkAt A a with st:=0 } with due:=⟨6,a,0⟩ }:=by simp only [learn];rw [if_pos hl]
   rw [e];exact h1.setDue (d:=⟨6,a,0⟩) (show (1:Int)≤6∧(6:Int)≤24 by decide) (by show a<256;omega) (show (0:Nat)<256 by decide)
  ·have e:learn A 8 a b v=setT A a { tkAt A a with st:=0 }:=by simp only [learn];rw [if_neg hl];rfl
   rw [e];exact h1
 ·have hb:b<160:=by simp [okN,shp,win] at hok;omega
  exact h.setT a ⟨show (0:Int)≤2∧(2:Int)≤3 by decide,ht.late,hb,ht.job,ht.lev⟩
 ·have ha:a<64:=by simp [okN,shp,win] at hok;omega
  have h1:AOk (setT A a { tkAt A a with st:=1 }):=h.setT a ⟨show (0:Int)≤1∧(1:Int)≤3 by decide,ht.late,ht.on,ht.job,ht.lev⟩
  by_cases hl:isMu (tkAt A a).on=true
  ·have e:learn A 10 a b v={ setT A a { tkAt A a with st:=1 } with due:=⟨12,a,(tkAt A a).on-32⟩ }:=by simp only [learn];rw [if_pos hl]
   rw [e];have:=ht.on;exact h1.setDue (d:=⟨12,a,(tkAt A a).on-32⟩) (show (1:Int)≤12∧(12:Int)≤24 by decide) (by show a<256;omega) (by show (tkAt A a).on-32<256;omega)
  ·have e:learn A 10 a b v=setT A a { tkAt A a with st:=1 }:=by simp only [learn];rw [if_neg hl];rfl
   rw [e];exact h1
 ·have hb:b<32:=by simp [okN,shp,win] at hok;omega
  exact h.setT a ⟨ht.st,ht.late,ht.on,ht.job,show (0:Int)≤(b:Int)+1∧(b:Int)+1≤32 by omega⟩
 ·have ha:a<64:=by simp [okN,shp,win] at hok;omega
  exact h.setOw b (o:=(a:Int)+1) (by omega)
 ·exact h.setOw b (o:=0) (by omega)
 ·exact h
 ·exact h
 ·exact h
 ·exact h
 ·exact h
 ·exact h
 ·exact h
 ·have ha:a<80:=by simp [okN,shp,win] at hok;omega
  by_cases hl:a<64
  ·have e:learn A 21 a b v=setT A a { tkAt A a with st:=3 }:=by simp only [learn];rw [if_pos hl]
   rw [e];exact h.setT a ⟨show (0:Int)≤3∧(3:Int)≤3 by decide,ht.late,ht.on,ht.job,ht.lev⟩
  ·have e:learn A 21 a b v={ A with due:=⟨4,a-64,0⟩ }:=by simp only [learn];rw [if_neg hl]
   rw [e];exact h.setDue (d:=⟨4,a-64,0⟩) (show (1:Int)≤4∧(4:Int)≤24 by decide) (by show a-64<256;omega) (show (0:Nat)<256 by decide)
 ·exact h.setT a ⟨show (0:Int)≤3∧(3:Int)≤3 by decide,ht.late,ht.on,ht.job,ht.lev⟩
 ·exact h
 ·exact h
structure EvOk (e:Ev):Prop where
 a:e.a<4294967296
 b:e.b<4294967296
 v:e.v<4294967296
 cy:0≤e.cy∧e.cy<18446744073709551616
 co:0≤e.co∧e.co<18446744073709551616
theorem keeps_ok {A:Au} {e:Ev} (h:keepsR A e=true):okE e=true:=by
 unfold keepsR inTime at h;simp only [Bool.and_eq_true] at h;exact h.1.1.1.1.1
theorem okE_nat {e:Ev} (h:okE e=true):1≤e.k.toNat∧e.k.toNat≤24∧e.k=e.k.toNat∧okN e.k.toNat e.a e.b e.v=true:=by
 unfold okE at h;simp only [Bool.and_eq_true,decide_eq_true_eq] at h;exact ⟨by omega,by omega,by omega,h.2⟩
theorem aok_step {A:Au} {e:Ev} (h:AOk A) (he:EvOk e) (hk:keepsR A e=true):AOk (stepA A e):=by
 obtain ⟨h1,h2,h3,h4⟩:=okE_nat (keeps_ok hk);have h5:=aok_learn h.noDue e.k.toNat e.a e.b e.v ⟨h1,h2⟩ h4 he.v;exact ⟨h5.lt,h5.lo,h5.lp,h5.st,h5.late,h5.on,h5.job,h5.lev,h5.own,h5.isr,h5.run,he.co,he.cy,h5.dk,h5.da,h5.db,h5.dz⟩
theorem aok0:AOk au0:=by
 refine ⟨rfl,rfl,rfl,?_,?_,?_,?_,?_,?_,by decide,by decide,by decide,by decide,by decide,by decide,by decide,fun _=>rfl⟩ <;>
  (intro t ht;obtain rfl:=List.eq_of_mem_replicate ht;decide)
theorem step_seen (A:Au) (e:Ev):(stepA A e).seen=A.seen+1:=rfl
def chkI (l:List Ev):Int:=match chk au0 l with
 | some k=>k
 | none=>-1
theorem nxt_yes {A:Au} {e:Ev} (h:keepsR A e=true):nxt A e=some (stepA A e):=by unfold nxt;rw [if_pos h]
theorem nxt_no {A:Au} {e:Ev} (h:keepsR A e=false):nxt A e=none:=by unfold nxt;rw [if_neg (by rw [h];decide)]
def Run (l : List Ev) (k : Nat) (A : Au) : Prop:=∀ r : List Ev,chk au0 (l.take k ++ r) = (chk A r).map (· + k)
theorem run0 (l:List Ev):Run l 0 au0:=fun r=>by simp
theorem run_next {l:List Ev} {k:Nat} {A:Au} (hk:k<l.length) (h:Run l k A) {e:Ev} (he:l[k]=e) (hkp:keepsR A e=true):Run l (k+1) (stepA A e):=by
 intro r;rw [List.take_succ_eq_append_getElem hk,List.append_assoc,h,he];simp only [List.singleton_append,chk,nxt_yes hkp,Option.map_map]
 congr 1;funext x;simp only [Function.comp];omega
theorem run_break {l:List Ev} {k:Nat} {A:Au} (hk:k<l.length) (h:Run l k A) {e:Ev} (he:l[k]=e) (hkp:keepsR A e=false):chk au0 l=some k:=by
 have h1:=h (l.drop k);rw [List.take_append_drop,List.drop_eq_getElem_cons hk,he] at h1
 simpa [chk,nxt_no hkp] using h1
theorem run_end {l:List Ev} {A:Au} (h:Run l l.length A):chk au0 l=none:=by
 have h1:=h []
 simpa [chk] using h1
end Go.Au
namespace Go.Proofs.YtkeommmigopnkaaGreatDoor
open Go.RowKit Go.Sx Go.Au
def Nx (w0:World) (pb:Nat) (A:Au) (e:Ev) (F:HP) (en:Ending) (w':World):Prop :=
 en=.returned (.bool (keepsR A e))∧(keepsR A e=true→Sat w0 w' (auP pb (stepA A e)*F))∧(keepsR A e=false→Sat w0 w' (pts pb 0 [.int .i64 A.seen,.bool true]*(F*any)))
section
variable {w0 w':World} {pb:Nat} {A:Au} {e:Ev} {F:HP}
theorem nx_no (hr:keepsR A e=false) (hs:Sat w0 w' (pts pb 0 [.int .i64 A.seen,.bool true]*(F*any))):Nx w0 pb A e F (.returned (.bool false)) w' :=
 ⟨by rw [hr],fun h=>(by rw [hr] at h;cases h),fun _=>hs⟩
theorem nx_yes (hr:keepsR A e=true) (hs:Sat w0 w' (auP pb (stepA A e)*F)):Nx w0 pb A e F (.returned (.bool true)) w' :=
 ⟨by rw [hr],fun _=>hs,fun h=>(by rw [hr] at h;cases h)⟩
end
theorem auNext_ev (pb:Nat) (A:Au) (k:Int) (cy co:Int) (a b v:Nat) (w0 w:World) (F:HP) (hs:Sat w0 w (auP pb A*F)) (hno:okE ⟨k,cy,co,a,b,v⟩=false) :
  Calls Tryz.prog 56 #[.pointer (some ⟨pb,0,none⟩),evV ⟨k,cy,co,a,b,v⟩] w (Nx w0 pb A ⟨k,cy,co,a,b,v⟩ F):=by
 have hs:=auP_out hs;have Hk:Hid (keepsR A ⟨k,cy,co,a,b,v⟩=false):=by unfold Hid keepsR inTime;rw [hno];rfl
 unfold evV;dsimp only;have Hno:=hid hno;clear hno
 go_enter Tryz.func56,Tryz.ntmps56
 go_wp2_with fail;refine wp_gen (w0:=w0) ?_;intro wx hsx;refine wp_region_early (fun w'=>Sat w0 w' (pts w.heap.size 0 [.int .i64 k,.int .u64 cy,.int .u64 co,.int .u32 a,.int .u32 b,.int .u32 v]*any)) [(0,true),(1,false),(2,true),(3,true),(4,true),(5,true),(6,true),(7,true),(8,true),(9,true),(10,true),(11,true),(12,true),(13,true),(14,true),(15,true),(16,true),(17,true),(18,true),(19,true),(20,true),(21,true),(22,true),(23,true),(24,true),(25,true),(26,true),(27,true),(28,true),(29,true),(30,true),(31,true)] (by kernel_rfl) (by kernel_rfl) (fun _ _ _ _ h=>h) own_any ?_
 iterate 1 (first | refine early_S ?_ | refine early_N ?_)
 refine early_G rfl (by rfl) (fun K hK=>?_);go_wp2_with fail;refine (evCheck k cy co a b v w0 _ _).mono ?_;rintro en w1 ⟨n,rfl,hn,hs1⟩;have hn0:(n==0)=false:=by
  rw [Hno.out] at hn;simp at hn;simp [hn]
 clear hn;go_wp2_with fail;refine ⟨own_any,?_⟩
 iterate 30 (first | refine early_S ?_ | refine early_N ?_)
 refine early_done ?_;go_wp2_with fail;go_quiet (fail);go_wp2_with fail;go_ret;exact nx_no Hk.out own_left
theorem auNext_close (pb:Nat) (A:Au) (k:Int) (cy co:Int) (a b v:Nat) (w0 w:World) (F:HP) (hs:Sat w0 w (auP pb A*F)) (hno:okE ⟨k,cy,co,a,b,v⟩=true) (h1:A.last.k=24) :
  Calls Tryz.prog 56 #[.pointer (some ⟨pb,0,none⟩),evV ⟨k,cy,co,a,b,v⟩] w (Nx w0 pb A ⟨k,cy,co,a,b,v⟩ F):=by
 have hs:=auP_out hs;have Hk:Hid (keepsR A ⟨k,cy,co,a,b,v⟩=false):=by unfold Hid keepsR inTime;simp [h1]
 unfold evV;dsimp only;have Hno:=hid hno;have d1:(A.last.k != 24)=false:=by simp [h1]
 clear hno h1
 go_enter Tryz.func56,Tryz.ntmps56
 go_wp2_with fail;refine wp_gen (w0:=w0) ?_;intro wx hsx;refine wp_region_early (fun w'=>Sat w0 w' (pts w.heap.size 0 [.int .i64 k,.int .u64 cy,.int .u64 co,.int .u32 a,.int .u32 b,.int .u32 v]*(pts pb 2 (evCells A.last)*any))) [(0,true),(1,false),(2,true),(3,true),(4,true),(5,true),(6,true),(7,true),(8,true),(9,true),(10,true),(11,true),(12,true),(13,true),(14,true),(15,true),(16,true),(17,true),(18,true),(19,true),(20,true),(21,true),(22,true),(23,true),(24,true),(25,true),(26,true),(27,true),(28,true),(29,true),(30,true),(31,true)] (by kernel_rfl) (by kernel_rfl) (fun _ _ _ _ h=>h) own_any2 ?_
 iterate 1 (first | refine early_S ?_ | refine early_N ?_)
 refine early_G rfl (by rfl) (fun K hK=>?_);go_wp2_with fail;refine (evCheck k cy co a b v w0 _ _).mono ?_;rintro en w1 ⟨n,rfl,hn,hs1⟩;obtain rfl:n=0:=hn.2 Hno.out;clear hn;go_wp2_with fail;refine ⟨own_any2,?_⟩
 iterate 30 (first | refine early_S ?_ | refine early_N ?_)
 refine early_done ?_;go_wp2_with fail;go_quiet (fail);go_wp2_with fail;go_ret;exact nx_no Hk.out own_left
theorem auNext_co (pb:Nat) (A:Au) (k:Int) (cy co:Int) (a b v:Nat) (w0 w:World) (F:HP) (hs:Sat w0 w (auP pb A*F)) (hno:okE ⟨k,cy,co,a,b,v⟩=true) (h1:A.last.k≠24) (h2:¬ A.last.co≤co) :
  Calls Tryz.prog 56 #[.pointer (some ⟨pb,0,none⟩),evV ⟨k,cy,co,a,b,v⟩] w (Nx w0 pb A ⟨k,cy,co,a,b,v⟩ F):=by
 have hs:=auP_out hs;have Hk:Hid (keepsR A ⟨k,cy,co,a,b,v⟩=false):=by unfold Hid keepsR inTime;simp [h2]
 unfold evV;dsimp only;have Hno:=hid hno;have d1:(A.last.k != 24)=true:=by simp [h1]
 have d2:decide (A.last.co≤co)=false:=by simp;omega
 clear hno h1 h2
 go_enter Tryz.func56,Tryz.ntmps56
 go_wp2_with fail;refine wp_gen (w0:=w0) ?_;intro wx hsx;refine wp_region_early (fun w'=>Sat w0 w' (pts w.heap.size 0 [.int .i64 k,.int .u64 cy,.int .u64 co,.int .u32 a,.int .u32 b,.int .u32 v]*(pts pb 2 (evCells A.last)*any))) [(0,true),(1,false),(2,true),(3,true),(4,true),(5,true),(6,true),(7,true),(8,true),(9,true),(10,true),(11,true),(12,true),(13,true),(14,true),(15,true),(16,true),(17,true),(18,true),(19,true),(20,true),(21,true),(22,true),(23,true),(24,true),(25,true),(26,true),(27,true),(28,true),(29,true),(30,true),(31,true)] (by kernel_rfl) (by kernel_rfl) (fun _ _ _ _ h=>h) own_any2 ?_
 iterate 1 (first | refine early_S ?_ | refine early_N ?_)
 refine early_G rfl (by rfl) (fun K hK=>?_);go_wp2_with fail;refine (evCheck k cy co a b v w0 _ _).mono ?_;rintro en w1 ⟨n,rfl,hn,hs1⟩;obtain rfl:n=0:=hn.2 Hno.out;clear hn;go_wp2_with fail;refine ⟨own_any2,?_⟩
 iterate 30 (first | refine early_S ?_ | refine early_N ?_)
 refine early_done ?_;go_wp2_with fail;go_quiet (fail);go_wp2_with fail;go_ret;exact nx_no Hk.out own_left
theorem auNext_cy (pb:Nat) (A:Au) (k:Int) (cy co:Int) (a b v:Nat) (w0 w:World) (F:HP) (hs:Sat w0 w (auP pb A*F)) (hno:okE ⟨k,cy,co,a,b,v⟩=true) (h1:A.last.k≠24) (h2:A.last.co≤co) (h3:¬ A.last.cy≤cy) :
  Calls Tryz.prog 56 #[.pointer (some ⟨pb,0,none⟩),evV ⟨k,cy,co,a,b,v⟩] w (Nx w0 pb A ⟨k,cy,co,a,b,v⟩ F):=by
 have hs:=auP_out hs;have Hk:Hid (keepsR A ⟨k,cy,co,a,b,v⟩=false):=by unfold Hid keepsR inTime;simp [h3]
 unfold evV;dsimp only;have Hno:=hid hno;have d1:(A.last.k != 24)=true:=by simp [h1]
 have d2:decide (A.last.co≤co)=true:=by simp;omega
 have d3:decide (A.last.cy≤cy)=false:=by simp;omega
 clear hno h1 h2 h3
 go_enter Tryz.func56,Tryz.ntmps56
 go_wp2_with fail;refine wp_gen (w0:=w0) ?_;intro wx hsx;refine wp_region_early (fun w'=>Sat w0 w' (pts w.heap.size 0 [.int .i64 k,.int .u64 cy,.int .u64 co,.int .u32 a,.int .u32 b,.int .u32 v]*(pts pb 2 (evCells A.last)*any))) [(0,true),(1,false),(2,true),(3,true),(4,true),(5,true),(6,true),(7,true),(8,true),(9,true),(10,true),(11,true),(12,true),(13,true),(14,true),(15,true),(16,true),(17,true),(18,true),(19,true),(20,true),(21,true),(22,true),(23,true),(24,true),(25,true),(26,true),(27,true),(28,true),(29,true),(30,true),(31,true)] (by kernel_rfl) (by kernel_rfl) (fun _ _ _ _ h=>h) own_any2 ?_
 iterate 1 (first | refine early_S ?_ | refine early_N ?_)
 refine early_G rfl (by rfl) (fun K hK=>?_);go_wp2_with fail;refine (evCheck k cy co a b v w0 _ _).mono ?_;rintro en w1 ⟨n,rfl,hn,hs1⟩;obtain rfl:n=0:=hn.2 Hno.out;clear hn;go_wp2_with fail;refine ⟨own_any2,?_⟩
 iterate 30 (first | refine early_S ?_ | refine early_N ?_)
 refine early_done ?_;go_wp2_with fail;go_quiet (fail);go_wp2_with fail;go_ret;exact nx_no Hk.out own_left
theorem auNext_due (pb:Nat) (A:Au) (k:Int) (cy co:Int) (a b v:Nat) (w0 w:World) (F:HP) (hs:Sat w0 w (auP pb A*F)) (hno:okE ⟨k,cy,co,a,b,v⟩=true) (h1:A.last.k≠24) (h2:A.last.co≤co) (h3:A.last.cy≤cy) (dk:Int) (da db:Nat) (hd:A.due=⟨dk,da,db⟩) (h4:dk≠0) (h5:¬ (dk=k∧da=a∧db=b)) :
  Calls Tryz.prog 56 #[.pointer (some ⟨pb,0,none⟩),evV ⟨k,cy,co,a,b,v⟩] w (Nx w0 pb A ⟨k,cy,co,a,b,v⟩ F):=by
 have hs:=auP_out hs;have Hk:Hid (keepsR A ⟨k,cy,co,a,b,v⟩=false):=by
  have e1:A.due≠du0:=by rw [hd];intro h;exact h4 (congrArg Du.k h)
  have e2:A.due≠⟨k,a,b⟩:=by rw [hd];intro h;injection h with q1 q2 q3;exact h5 ⟨q1,q2,q3⟩
  unfold Hid keepsR inTime duOf;simp [e1,e2]
 rw [hd] at hs;unfold evV;dsimp only;dsimp only [duCells] at hs;have Hno:=hid hno;have d1:(A.last.k != 24)=true:=by simp [h1]
 have d2:decide (A.last.co≤co)=true:=by simp;omega
 have d3:decide (A.last.cy≤cy)=true:=by simp;omega
 clear hno h1 h2 h3 hd;have g0:¬ dk=0:=h4;clear h4
 by_cases q1:dk=k
 ·subst q1
  by_cases q2:da=a
  ·subst q2;have g1:¬ db=b:=fun h=>h5 ⟨rfl,rfl,h⟩;have g2:¬ (db:Int)=(b:Int):=by omega
   clear h5
   go_enter Tryz.func56,Tryz.ntmps56
   go_wp2_with fail;refine wp_gen (w0:=w0) ?_;intro wx hsx;refine wp_region_early (fun w'=>Sat w0 w' (pts w.heap.size 0 [.int .i64 dk,.int .u64 cy,.int .u64 co,.int .u32 da,.int .u32 b,.int .u32 v]*(pts pb 2 (evCells A.last)*any))) [(0,true),(1,false),(2,true),(3,true),(4,true),(5,true),(6,true),(7,true),(8,true),(9,true),(10,true),(11,true),(12,true),(13,true),(14,true),(15,true),(16,true),(17,true),(18,true),(19,true),(20,true),(21,true),(22,true),(23,true),(24,true),(25,true),(26,true),(27,true),(28,true),(29,true),(30,true),(31,true)] (by kernel_rfl) (by kernel_rfl) (fun _ _ _ _ h=>h) own_any2 ?_
   iterate 1 (first | refine early_S ?_ | refine early_N ?_)
   refine early_G rfl (by rfl) (fun K hK=>?_);go_wp2_with fail;refine (evCheck dk cy co da b v w0 _ _).mono ?_;rintro en w1 ⟨n,rfl,hn,hs1⟩;obtain rfl:n=0:=hn.2 Hno.out;clear hn;go_wp2_with fail;refine ⟨own_any2,?_⟩
   iterate 30 (first | refine early_S ?_ | refine early_N ?_)
   refine early_done ?_;clear hs hsx;go_wp2_with fail;go_quiet (fail);go_wp2_with fail;go_ret;exact nx_no Hk.out own_left
  ·have g1:¬ da=a:=q2;have g2:¬ (da:Int)=(a:Int):=by omega
   clear h5 q2
   go_enter Tryz.func56,Tryz.ntmps56
   go_wp2_with fail;refine wp_gen (w0:=w0) ?_;intro wx hsx;refine wp_region_early (fun w'=>Sat w0 w' (pts w.heap.size 0 [.int .i64 dk,.int .u64 cy,.int .u64 co,.int .u32 a,.int .u32 b,.int .u32 v]*(pts pb 2 (evCells A.last)*any))) [(0,true),(1,false),(2,true),(3,true),(4,true),(5,true),(6,true),(7,true),(8,true),(9,true),(10,true),(11,true),(12,true),(13,true),(14,true),(15,true),(16,true),(17,true),(18,true),(19,true),(20,true),(21,true),(22,true),(23,true),(24,true),(25,true),(26,true),(27,true),(28,true),(29,true),(30,true),(31,true)] (by kernel_rfl) (by kernel_rfl) (fun _ _ _ _ h=>h) own_any2 ?_
   iterate 1 (first | refine early_S ?_ | refine early_N ?_)
   refine early_G rfl (by rfl) (fun K hK=>?_);go_wp2_with fail;refine (evCheck dk cy co a b v w0 _ _).mono ?_;rintro en w1 ⟨n,rfl,hn,hs1⟩;obtain rfl:n=0:=hn.2 Hno.out;clear hn;go_wp2_with fail;refine ⟨own_any2,?_⟩
   iterate 30 (first | refine early_S ?_ | refine early_N ?_)
   refine early_done ?_;clear hs hsx;go_wp2_with fail;go_quiet (fail);go_wp2_with fail;go_ret;exact nx_no Hk.out own_left
 ·have g1:¬ dk=k:=q1;clear h5 q1
  go_enter Tryz.func56,Tryz.ntmps56
  go_wp2_with fail;refine wp_gen (w0:=w0) ?_;intro wx hsx;refine wp_region_early (fun w'=>Sat w0 w' (pts w.heap.size 0 [.int .i64 k,.int .u64 cy,.int .u64 co,.int .u32 a,.int .u32 b,.int .u32 v]*(pts pb 2 (evCells A.last)*any))) [(0,true),(1,false),(2,true),(3,true),(4,true),(5,true),(6,true),(7,true),(8,true),(9,true),(10,true),(11,true),(12,true),(13,true),(14,true),(15,true),(16,true),(17,true),(18,true),(19,true),(20,true),(21,true),(22,true),(23,true),(24,true),(25,true),(26,true),(27,true),(28,true),(29,true),(30,true),(31,true)] (by kernel_rfl) (by kernel_rfl) (fun _ _ _ _ h=>h) own_any2 ?_
  iterate 1 (first | refine early_S ?_ | refine early_N ?_)
  refine early_G rfl (by rfl) (fun K hK=>?_);go_wp2_with fail;refine (evCheck k cy co a b v w0 _ _).mono ?_;rintro en w1 ⟨n,rfl,hn,hs1⟩;obtain rfl:n=0:=hn.2 Hno.out;clear hn;go_wp2_with fail;refine ⟨own_any2,?_⟩
  iterate 30 (first | refine early_S ?_ | refine early_N ?_)
  refine early_done ?_;clear hs hsx;go_wp2_with fail;go_quiet (fail);go_wp2_with fail;go_ret;exact nx_no Hk.out own_left
theorem own_any3 {w0 w:World} {P A B C F1 F2 F3:HP} [hs:Sat w0 w P] [h:Pull P A F1] [h2:Pull F1 B F2] [h3:Pull F2 C F3]:Sat w0 w (A*(B*(C*any))) :=
 ((hs.perm (by rw [h.eq,h2.eq,h3.eq];ac_rfl:P=A*B*C*F3)).toAny).perm (by ac_rfl)
theorem auNext_had (pb:Nat) (A:Au) (k:Nat) (cy co:Int) (a b v:Nat) (w0 w:World) (F:HP) (hs:Sat w0 w (auP pb A*F)) (hA:AOk A) (hseen:0≤A.seen∧A.seen<1000000000) (hkk:1≤k∧k≤24) (hok:okN k a b v=true) (hv:v<4294967296)
    (hno:okE ⟨k, cy, co, a, b, v⟩=true) (h1:A.last.k≠24) (h2:A.last.co≤co) (h3:A.last.cy≤cy) (hd:A.due=⟨k, a, b⟩) :
    Calls Tryz.prog 56 #[.pointer (some ⟨pb, 0, none⟩), evV ⟨k, cy, co, a, b, v⟩] w (Nx w0 pb A ⟨k, cy, co, a, b, v⟩ F) := by
  have hs := auP_out hs;have hA0:AOk { A with due := du0 } := ⟨hA.lt, hA.lo, hA.lp, hA.st, hA.late, hA.on, hA.job, hA.lev, hA.own, hA.isr, hA.run, hA.co, hA.cy, show (0:Int)≤0∧(0:Int)≤24 by decide, show (0:Nat)<256 by decide, show (0:Nat)<256 by decide, fun _ => rfl⟩;have Hk:Hid (keepsR A ⟨k, cy, co, a, b, v⟩=rule { A with due := du0 } k a b v true) := by
    unfold Hid keepsR inTime duOf;rw [hd];have e:decide ((⟨k, a, b⟩:Du)=⟨k, a, b⟩)=true := by
      exact decide_eq_true rfl
    rw [e]; simp [hno, h1, h2, h3]
  have Hst:Hid (stepA A ⟨k, cy, co, a, b, v⟩={ learn { A with due := du0 } k a b v with last := ⟨k, cy, co, a, b, v⟩, seen := A.seen+1 }) := rfl;have Hsn := hid (learn_seen { A with due := du0 } k a b v);dsimp only at Hsn;rw [hd] at hs;unfold evV;dsimp only;dsimp only [duCells] at hs;have Hno := hid hno;have d1:(A.last.k != 24)=true := by simp [h1]
  have d2:decide (A.last.co≤co)=true := by simp; omega
  have d3:decide (A.last.cy≤cy)=true := by simp; omega
  clear hno h1 h2 h3 hd;have g0:¬ (k:Int)=0 := by omega
  have g1:¬ (0:Int)=(k:Int) := by omega
  generalize hr:rule { A with due := du0 } k a b v true=r at Hk;have Hr := hid hr;clear hr
  cases r
  all_goals
    go_enter Tryz.func56, Tryz.ntmps56
    go_wp2_with fail;refine wp_gen (w0 := w0) ?_;intro wx hsx;refine wp_region_early (fun w' => Sat w0 w' (pts w.heap.size 0 [.int .i64 k, .int .u64 cy, .int .u64 co, .int .u32 a, .int .u32 b, .int .u32 v]*(pts pb 2 (evCells A.last)*any))) [(0, true), (1, false), (2, true), (3, true), (4, true), (5, true), (6, true), (7, true), (8, true), (9, true), (10, true), (11, true), (12, true), (13, true), (14, true), (15, true), (16, true), (17, true), (18, true), (19, true), (20, true), (21, true), (22, true), (23, true), (24, true), (25, true), (26, true), (27, true), (28, true), (29, true), (30, true), (31, true)] (by kernel_rfl) (by kernel_rfl) (fun _ _ _ _ h => h) own_any2 ?_
    iterate 1 (first | refine early_S ?_ | refine early_N ?_)
    refine early_G rfl (by rfl) (fun K hK => ?_);go_wp2_with fail;refine (evCheck k cy co a b v w0 _ _).mono ?_;rintro en w1 ⟨n, rfl, hn, hs1⟩;obtain rfl:n=0 := hn.2 Hno.out;clear hn;go_wp2_with fail;refine ⟨own_any2, ?_⟩
    iterate 30 (first | refine early_S ?_ | refine early_N ?_)
    refine early_done ?_;clear hs hsx;go_wp2_with fail;refine wp_region_early (fun w' => Sat w0 w' (pts w.heap.size 0 [.int .i64 k, .int .u64 cy, .int .u64 co, .int .u32 a, .int .u32 b, .int .u32 v]*(pts (w.heap.size+1) 0 [.int .i64 k, .int .u32 a, .int .u32 b]*(pts (w.heap.size+1+1) 0 [.int .i64 k, .int .u32 a, .int .u32 b]*any)))) [(0, true), (1, true), (2, true), (3, true), (4, true), (5, true), (6, true), (7, true), (8, false), (9, true), (10, true)] (by kernel_rfl) (by kernel_rfl) (fun _ _ _ _ h => h) own_any3 ?_
    iterate 8 (first | refine early_S ?_ | refine early_N ?_)
    refine early_G rfl (by rfl) (fun K hK => ?_);go_wp2_with fail;refine (auKeeps pb { A with due := du0 } k a b v hkk true cy co w0 _ (pts w.heap.size 0 [.int .i64 k, .int .u64 cy, .int .u64 co, .int .u32 a, .int .u32 b, .int .u32 v]*(pts (w.heap.size+1) 0 [.int .i64 k, .int .u32 a, .int .u32 b]*(pts (w.heap.size+1+1) 0 [.int .i64 k, .int .u32 a, .int .u32 b]*F))) (auP_of own_left) hA0 hok hv).mono ?_;rintro en w2 ⟨rfl, hy, hn⟩;clear hs1;rw [Hr.out] at hy hn ⊢
    first
      | (have hs2 := auP_out (hy rfl)
         clear hy hn;generalize learn { A with due := du0 } k a b v=B at hs2 Hst Hsn;have hb1:0≤B.seen∧B.seen<1000000000 := by have := Hsn.out; omega
         go_wp2_with fail
         (first | refine ⟨own_any3, ?_⟩ | skip)
         iterate 2 (first | refine early_S ?_ | refine early_N ?_)
         refine early_done ?_;go_wp2_with fail;go_ret;refine nx_yes Hk.out (auP_of ?_);rw [Hst.out];dsimp only;rw [← Hsn.out];exact own_left)
      | (have hs2 := hn rfl
         clear hy hn;go_wp2_with fail
         (first | refine ⟨own_any3, ?_⟩ | skip)
         iterate 2 (first | refine early_S ?_ | refine early_N ?_)
         refine early_done ?_;go_wp2_with fail;go_ret;exact nx_no Hk.out own_left)
theorem auNext_free (pb:Nat) (A:Au) (k:Nat) (cy co:Int) (a b v:Nat) (w0 w:World) (F:HP) (hs:Sat w0 w (auP pb A*F)) (hA:AOk A) (hseen:0≤A.seen∧A.seen<1000000000) (hkk:1≤k∧k≤24) (hok:okN k a b v=true) (hv:v<4294967296)
    (hno:okE ⟨k, cy, co, a, b, v⟩=true) (h1:A.last.k≠24) (h2:A.last.co≤co) (h3:A.last.cy≤cy) (hd:A.due=du0) :
    Calls Tryz.prog 56 #[.pointer (some ⟨pb, 0, none⟩), evV ⟨k, cy, co, a, b, v⟩] w (Nx w0 pb A ⟨k, cy, co, a, b, v⟩ F) := by
  have hs := auP_out hs;have hA0:AOk { A with due := du0 } := ⟨hA.lt, hA.lo, hA.lp, hA.st, hA.late, hA.on, hA.job, hA.lev, hA.own, hA.isr, hA.run, hA.co, hA.cy, show (0:Int)≤0∧(0:Int)≤24 by decide, show (0:Nat)<256 by decide, show (0:Nat)<256 by decide, fun _ => rfl⟩;have Hk:Hid (keepsR A ⟨k, cy, co, a, b, v⟩=rule { A with due := du0 } k a b v false) := by
    unfold Hid keepsR inTime duOf;rw [hd];have e:decide ((du0:Du)=⟨k, a, b⟩)=false := by
      refine decide_eq_false fun h => ?_; have := congrArg Du.k h; simp at this; omega
    rw [e]; simp [hno, h1, h2, h3]
  have Hst:Hid (stepA A ⟨k, cy, co, a, b, v⟩={ learn { A with due := du0 } k a b v with last := ⟨k, cy, co, a, b, v⟩, seen := A.seen+1 }) := rfl;have Hsn := hid (learn_seen { A with due := du0 } k a b v);dsimp only at Hsn;rw [hd] at hs;unfold evV;dsimp only;dsimp only [duCells] at hs;have Hno := hid hno;have d1:(A.last.k != 24)=true := by simp [h1]
  have d2:decide (A.last.co≤co)=true := by simp; omega
  have d3:decide (A.last.cy≤cy)=true := by simp; omega
  clear hno h1 h2 h3 hd;have g0:¬ (k:Int)=0 := by omega
  have g1:¬ (0:Int)=(k:Int) := by omega
  generalize hr:rule { A with due := du0 } k a b v false=r at Hk;have Hr := hid hr;clear hr
  cases r
  all_goals
    go_enter Tryz.func56, Tryz.ntmps56
    go_wp2_with fail;refine wp_gen (w0 := w0) ?_;intro wx hsx;refine wp_region_early (fun w' => Sat w0 w' (pts w.heap.size 0 [.int .i64 k, .int .u64 cy, .int .u64 co, .int .u32 a, .int .u32 b, .int .u32 v]*(pts pb 2 (evCells A.last)*any))) [(0, true), (1, false), (2, true), (3, true), (4, true), (5, true), (6, true), (7, true), (8, true), (9, true), (10, true), (11, true), (12, true), (13, true), (14, true), (15, true), (16, true), (17, true), (18, true), (19, true), (20, true), (21, true), (22, true), (23, true), (24, true), (25, true), (26, true), (27, true), (28, true), (29, true), (30, true), (31, true)] (by kernel_rfl) (by kernel_rfl) (fun _ _ _ _ h => h) own_any2 ?_
    iterate 1 (first | refine early_S ?_ | refine early_N ?_)
    refine early_G rfl (by rfl) (fun K hK => ?_);go_wp2_with fail;refine (evCheck k cy co a b v w0 _ _).mono ?_;rintro en w1 ⟨n, rfl, hn, hs1⟩;obtain rfl:n=0 := hn.2 Hno.out;clear hn;go_wp2_with fail;refine ⟨own_any2, ?_⟩
    iterate 30 (first | refine early_S ?_ | refine early_N ?_)
    refine early_done ?_;clear hs hsx;go_wp2_with fail;refine wp_region_early (fun w' => Sat w0 w' (pts w.heap.size 0 [.int .i64 k, .int .u64 cy, .int .u64 co, .int .u32 a, .int .u32 b, .int .u32 v]*(pts (w.heap.size+1) 0 [.int .i64 0, .int .u32 0, .int .u32 0]*(pts (w.heap.size+1+1) 0 [.int .i64 k, .int .u32 a, .int .u32 b]*any)))) [(0, true), (1, true), (2, true), (3, true), (4, true), (5, true), (6, true), (7, true), (8, false), (9, true), (10, true)] (by kernel_rfl) (by kernel_rfl) (fun _ _ _ _ h => h) own_any3 ?_
    iterate 8 (first | refine early_S ?_ | refine early_N ?_)
    refine early_G rfl (by rfl) (fun K hK => ?_);go_wp2_with fail;refine (auKeeps pb { A with due := du0 } k a b v hkk false cy co w0 _ (pts w.heap.size 0 [.int .i64 k, .int .u64 cy, .int .u64 co, .int .u32 a, .int .u32 b, .int .u32 v]*(pts (w.heap.size+1) 0 [.int .i64 0, .int .u32 0, .int .u32 0]*(pts (w.heap.size+1+1) 0 [.int .i64 k, .int .u32 a, .int .u32 b]*F))) (auP_of own_left) hA0 hok hv).mono ?_;rintro en w2 ⟨rfl, hy, hn⟩;clear hs1;rw [Hr.out] at hy hn ⊢
    first
      | (have hs2 := auP_out (hy rfl)
         clear hy hn;generalize learn { A with due := du0 } k a b v=B at hs2 Hst Hsn;have hb1:0≤B.seen∧B.seen<1000000000 := by have := Hsn.out; omega
         go_wp2_with fail
         (first | refine ⟨own_any3, ?_⟩ | skip)
         iterate 2 (first | refine early_S ?_ | refine early_N ?_)
         refine early_done ?_;go_wp2_with fail;go_ret;refine nx_yes Hk.out (auP_of ?_);rw [Hst.out];dsimp only;rw [← Hsn.out];exact own_left)
      | (have hs2 := hn rfl
         clear hy hn;go_wp2_with fail
         (first | refine ⟨own_any3, ?_⟩ | skip)
         iterate 2 (first | refine early_S ?_ | refine early_N ?_)
         refine early_done ?_;go_wp2_with fail;go_ret;exact nx_no Hk.out own_left)
theorem auNext (pb:Nat) (A:Au) (e:Ev) (w0 w:World) (F:HP) (hs:Sat w0 w (auP pb A*F)) (hA:AOk A) (he:EvOk e) (hseen:0≤A.seen∧A.seen<1000000000) :
  Calls Tryz.prog 56 #[.pointer (some ⟨pb,0,none⟩),evV e] w (Nx w0 pb A e F):=by
 obtain ⟨k,cy,co,a,b,v⟩:=e
 by_cases h0:okE ⟨k,cy,co,a,b,v⟩=true
 ·have h0':=h0;unfold okE at h0';simp only [Bool.and_eq_true,decide_eq_true_eq] at h0';obtain ⟨hkk,hok⟩:=h0'
  by_cases h1:A.last.k=24
  ·exact auNext_close pb A k cy co a b v w0 w F hs h0 h1
  ·by_cases h2:A.last.co≤co
   ·by_cases h3:A.last.cy≤cy
    ·obtain ⟨n,rfl⟩:=Int.eq_ofNat_of_zero_le (show 0≤k by omega);have hok:okN n a b v=true:=hok;have hkk:1≤n∧n≤24:=by omega
     by_cases h4:A.due.k=0
     ·exact auNext_free pb A n cy co a b v w0 w F hs hA hseen hkk hok he.v h0 h1 h2 h3 (hA.dz h4)
     ·by_cases h5:A.due=⟨n,a,b⟩
      ·exact auNext_had pb A n cy co a b v w0 w F hs hA hseen hkk hok he.v h0 h1 h2 h3 h5
      ·exact auNext_due pb A n cy co a b v w0 w F hs h0 h1 h2 h3 A.due.k A.due.a A.due.b rfl h4 (fun ⟨q1,q2,q3⟩=>h5 (by rw [← q1,← q2,← q3]))
    ·exact auNext_cy pb A k cy co a b v w0 w F hs h0 h1 h2 h3
   ·exact auNext_co pb A k cy co a b v w0 w F hs h0 h1 h2
 ·exact auNext_ev pb A k cy co a b v w0 w F hs (by simpa using h0)
def zeroA:Array Value:=(([.int .i64 0,.bool false]++(evCells ev0++(duCells du0++(cellsOf au0.ts++(au0.ow.map (Value.int .i64)++(au0.pn.map Value.bool++[.int .i64 0,.int .i64 0])))))):List Value).toArray
theorem zeroAud (w:World):Sem.run Tryz.prog (zeroValue 144) w=.ok (.agg zeroA) w:=by kernel_rfl
theorem zeroA_eq:Tryz.zeroCells144=zeroA:=by kernel_rfl
theorem zeroA_size:zeroA.size=381:=by kernel_rfl
theorem zeroA_ne:zeroA≠#[]:=fun h=>by have:=zeroA_size;rw [h] at this;exact absurd this (by decide)
theorem zeroA_list:zeroA.toList=[.int .i64 0,.bool false]++(evCells ev0++(duCells du0++(cellsOf au0.ts++(au0.ow.map (Value.int .i64)++(au0.pn.map Value.bool++[.int .i64 0,.int .i64 0]))))):=rfl
theorem auP_new {w0 w:World} {F:HP} (hs:Sat w0 w F) (t:TypeId):Sat w0 (w.alloc (.cells zeroA t)) (auP w.heap.size au0*F):=by
 have h1:=hs.alloc zeroA t;rw [zeroA_list,pts_append,pts_append,pts_append,pts_append,pts_append,pts_append] at h1;have e:(cellsOf au0.ts).length=320:=by rw [cellsOf_len];rfl
 rw [e] at h1;have h2:Sat w0 (w.alloc (.cells zeroA t)) (auP w.heap.size au0*F):=h1;exact h2
def StaysE (w0:World) (F:HP) (v:Value) (l:List Ev):Prop:=∀ w,Sat w0 w F→RdR w v l
theorem staysE_old {w0:World} {F:HP} {v:Value} {l:List Ev} (h:RdR w0 v l):StaysE w0 F v l:=fun _ hs=>h.later hs
attribute [local simp,local go_sem] zeroAud zeroA_size zeroA_ne
theorem auCheck (v:Value) (l:List Ev) (hl:l.length<1000000) (hev:∀ e∈l,EvOk e) (w0 w:World) (F:HP) (hs:Sat w0 w F) (hst:StaysE w0 F v l) :
  Calls Tryz.prog 32 #[v] w (RetV w0 (.int .i64 (chkI l)) F):=by
 have hst':=hid hst;obtain ⟨a,cap,b,off,rfl,hcap,hbig,ha,hc⟩:=hst w hs;have Ha:=hid ha;have Hev:=hid hev;clear hc ha hst hev;unfold maxLen at hbig;have hs1:=auP_new hs 144;rw [← zeroA_eq] at hs1
 go_enter Tryz.func32,Tryz.ntmps32
 go_wp2_with fail;refine wp_gen (w0:=w0) ?_;intro wx hsx;generalize w.heap.size=pb at *;clear hs hs1
 go_loopw [8] (fun i wr=>∃ (k:Nat) (A:Au),k≤l.length∧i=.int .i64 k∧AOk A∧A.seen=k∧Run l k A∧Sat w0 wr (auP pb A*(F*any))) (fun i _=>l.length-(intOf i).toNat)
 case atStart=>exact ⟨0,au0,by omega,rfl,aok0,rfl,run0 l,own_left⟩
 case round =>
  obtain ⟨k,A,hk,rfl,hA,hse,hrun,hs2⟩:=hrel;have Hrun:=hid hrun;have Hse:=hid hse;clear hrun hse hsx
  by_cases hlt:k<l.length
  ·have hin:l[k]∈l:=List.getElem_mem hlt;have hek:=Hev.out _ hin;have hrd:=hst'.out wr own_left;obtain ⟨a2,cap2,g,off2,e,h3,h4,h5,h6⟩:=hrd;simp only [Value.slice.injEq] at e;obtain ⟨rfl,_,rfl⟩:=e;obtain rfl:=h5 (by rintro rfl;simp at hlt);have hcell:∀ c,c<6→wr.cell? ⟨g,off2+k*6+c,none⟩=(evCells l[k])[c]?:=fun c hc=>by
    have h7:=cellsOf_at (E:=encEv) (l:=l) (k:=k) (c:=c) hlt hc;have h8:l.getD k encEv.dft=l[k]:=by simp [List.getD,hlt]
    rw [h8] at h7;have h9:c<(evCells l[k]).length:=hc;rw [List.getElem?_eq_getElem h9];rw [Nat.add_assoc];refine h6 _ _ (h7.trans ?_);exact List.getElem?_eq_getElem h9
   have q0:=hcell 0 (by decide);have q1:=hcell 1 (by decide);have q2:=hcell 2 (by decide);have q3:=hcell 3 (by decide);have q4:=hcell 4 (by decide);have q5:=hcell 5 (by decide);clear hcell h6 hin;have Hl:Hid (∀ e,l[k]=e→l[k]=e):=fun _ h=>h;generalize hle:l[k]=e at *;have Hle:=hid hle;clear hle Hl;obtain ⟨ek,ecy,eco,ea,eb,ev⟩:=e;simp only [evCells,List.getElem?_cons_zero,List.getElem?_cons_succ,Nat.add_zero] at q0 q1 q2 q3 q4 q5;have hI:(k:Int)<(l.length:Int):=by omega
   go_wp2_with fail;refine (auNext pb A ⟨ek,ecy,eco,ea,eb,ev⟩ w0 _ (F*any) own_left hA hek ⟨by have:=Hse.out;omega,by have:=Hse.out;omega⟩).mono ?_;rintro en w2 ⟨rfl,hy,hn⟩;clear hs2;generalize hr:keepsR A ⟨ek,ecy,eco,ea,eb,ev⟩=r at hy hn ⊢;have Hr:=hid hr;clear hr
   cases r
   ·have hs3:=hn rfl;clear hn hy;go_wp2_with fail;go_ret;refine ⟨?_,own_left⟩;have:=run_break hlt Hrun.out Hle.out Hr.out;unfold chkI;rw [this]
    rfl
   ·have hs3:=hy rfl;clear hn hy;go_wp2_with fail;go_roundw
    case rel=>exact ⟨k+1,stepA A ⟨ek,ecy,eco,ea,eb,ev⟩,by omega,by go_num,aok_step hA hek Hr.out,by rw [step_seen,Hse.out];omega,run_next hlt Hrun.out Hle.out Hr.out,own_left⟩
    case measure=>simp [intOf];omega
  ·have hke:k=l.length:=by omega
   subst hke;go_wp2_with fail;go_ret;refine ⟨?_,own_left⟩;unfold chkI;rw [run_end Hrun.out]
   rfl
end Go.Proofs.YtkeommmigopnkaaGreatDoor
namespace Go.Proofs.YtkeommmigopnkaaGreatDoor
open Go.RowKit Go.Sx Go.Au
abbrev kEv:List IntKind:=[.i64,.u64,.u64,.u32,.u32,.u32]
theorem wf_u32 {n:Int} (h:(Lit.int .u32 n).wf=true):0≤n∧n<4294967296:=by
 have h1:(decide ((0:Int)≤n) && decide (n≤4294967295))=true:=h;simp only [Bool.and_eq_true,decide_eq_true_eq] at h1;omega
theorem wf_u64 {n:Int} (h:(Lit.int .u64 n).wf=true):0≤n∧n<18446744073709551616:=by
 have h1:(decide ((0:Int)≤n) && decide (n≤18446744073709551615))=true:=h;simp only [Bool.and_eq_true,decide_eq_true_eq] at h1;omega
def evOf (f:Nat→Int):Ev:=⟨f 0,f 1,f 2,(f 3).toNat,(f 4).toNat,(f 5).toNat⟩
theorem evOf_ok {f:Nat→Int} (h:∀ c κ,kEv[c]?=some κ→(Lit.int κ (f c)).wf=true):EvOk (evOf f):=by
 have h1:=wf_u64 (h 1 _ rfl);have h2:=wf_u64 (h 2 _ rfl);have h3:=wf_u32 (h 3 _ rfl);have h4:=wf_u32 (h 4 _ rfl);have h5:=wf_u32 (h 5 _ rfl);exact ⟨by show (f 3).toNat<_;omega,by show (f 4).toNat<_;omega,by show (f 5).toNat<_;omega,h1,h2⟩
theorem evOf_cells {f:Nat→Int} (h:∀ c κ,kEv[c]?=some κ→(Lit.int κ (f c)).wf=true):evCells (evOf f)=[.int .i64 (f 0),.int .u64 (f 1),.int .u64 (f 2),.int .u32 (f 3),.int .u32 (f 4),.int .u32 (f 5)]:=by
 have h3:=wf_u32 (h 3 _ rfl);have h4:=wf_u32 (h 4 _ rfl);have h5:=wf_u32 (h 5 _ rfl);simp only [evCells,evOf,Int.toNat_of_nonneg h3.1,Int.toNat_of_nonneg h4.1,Int.toNat_of_nonneg h5.1]
theorem evs_of_RdK {w:World} {v:Value} {n:Nat} {f:Nat→Nat→Int} (h:RdK kEv w v n f):∃ l:List Ev,l.length=n∧RdR w v l∧∀ e∈l,EvOk e:=by
 obtain ⟨a,cap,b,off,rfl,h1,h2,h3,h4⟩:=h;refine ⟨(List.range n).map fun i=>evOf (f i),by simp,⟨a,cap,b,off,by simp,by simpa using h1,h2,fun hne=>h3 ?_,fun j u hj=>?_⟩,?_⟩
 ·rcases Nat.eq_zero_or_pos n with h | h
  ·subst h;simp at hne
  ·exact h
 ·have hlt:j<n*6:=by
   have:=(List.getElem?_eq_some_iff.1 hj).1;rw [cellsOf_len] at this;simpa using this
  have hk:j / 6<n:=by omega
  have hc:j%6<6:=Nat.mod_lt _ (by decide);have e1:j / 6*6+j%6=j:=by omega
  have h5:=cellsOf_at (E:=encEv) (l:=(List.range n).map fun i=>evOf (f i)) (k:=j / 6) (c:=j%6) (by simpa using hk) hc;rw [e1,hj] at h5;have h6:((List.range n).map fun i=>evOf (f i)).getD (j / 6) encEv.dft=evOf (f (j / 6)):=by simp [List.getD,hk]
  rw [h6] at h5;have h7:encEv.enc (evOf (f (j / 6)))=evCells (evOf (f (j / 6))):=rfl;rw [h7,evOf_cells fun c κ hκ=>(h4 (j / 6) c κ hk hκ).2] at h5;generalize hcc:j%6=c at h5 e1 hc;have h8:∀ κ,kEv[c]?=some κ→w.cell? ⟨b,off+j,none⟩=some (.int κ (f (j / 6) c)):=fun κ hκ=>by
   have:=(h4 (j / 6) c κ hk hκ).1;rw [show kEv.length=6 from rfl,e1] at this;exact this
  match c,hc with
  | 0,_=>rw [h8 _ rfl];simpa using h5.symm
  | 1,_=>rw [h8 _ rfl];simpa using h5.symm
  | 2,_=>rw [h8 _ rfl];simpa using h5.symm
  | 3,_=>rw [h8 _ rfl];simpa using h5.symm
  | 4,_=>rw [h8 _ rfl];simpa using h5.symm
  | 5,_=>rw [h8 _ rfl];simpa using h5.symm
 ·intro e he;obtain ⟨i,hi,rfl⟩:=List.mem_map.1 he;exact evOf_ok fun c κ hκ=>(h4 i c κ (List.mem_range.1 hi) hκ).2
theorem ev_at {wr:World} {a:Option Addr} {n c:Nat} {l:List Ev} {k:Nat} (h:RdR wr (.slice a n c) l) (hlt:k<l.length) :
  ∃ g off,a=some ⟨g,off,none⟩∧wr.cell? ⟨g,off+k*6,none⟩=some (.int .i64 l[k].k)∧wr.cell? ⟨g,off+k*6+1,none⟩=some (.int .u64 l[k].cy)∧wr.cell? ⟨g,off+k*6+2,none⟩=some (.int .u64 l[k].co)
   ∧ wr.cell? ⟨g,off+k*6+3,none⟩=some (.int .u32 l[k].a)∧wr.cell? ⟨g,off+k*6+4,none⟩=some (.int .u32 l[k].b)∧wr.cell? ⟨g,off+k*6+5,none⟩=some (.int .u32 l[k].v):=by
 obtain ⟨a2,cap2,g,off2,e,h3,h4,h5,h6⟩:=h;simp only [Value.slice.injEq] at e;obtain ⟨rfl,_,rfl⟩:=e;obtain rfl:=h5 (by rintro rfl;simp at hlt);have hcell:∀ c,c<6→wr.cell? ⟨g,off2+k*6+c,none⟩=(evCells l[k])[c]?:=fun c hc=>by
  have h7:=cellsOf_at (E:=encEv) (l:=l) (k:=k) (c:=c) hlt hc;have h8:l.getD k encEv.dft=l[k]:=by simp [List.getD,hlt]
  rw [h8] at h7;have h9:c<(evCells l[k]).length:=hc;rw [List.getElem?_eq_getElem h9];rw [Nat.add_assoc];refine h6 _ _ (h7.trans ?_);exact List.getElem?_eq_getElem h9
 exact ⟨g,off2,rfl,hcell 0 (by decide),hcell 1 (by decide),hcell 2 (by decide),hcell 3 (by decide),hcell 4 (by decide),hcell 5 (by decide)⟩
end Go.Proofs.YtkeommmigopnkaaGreatDoor
