/-
  Parts of the proof: AuditA AuditB AuditC AuditD AuditE AuditF.
-/
import Derived.Handy
import Derived.Test.YtkeommmigopnkaaGreatDoorKF3
import Derived.Test.YtkeommmigopnkaaGreatDoorKF4
set_option linter.unusedVariables false
set_option linter.unusedSimpArgs false
set_option maxHeartbeats 32000000
set_option maxRecDepth 100000
namespace Go.Proofs.YtkeommmigopnkaaGreatDoor
open Go.RowKit Go.Sx Go.Au
theorem evIs (k:Int) (w:World):Calls Tryz.prog 121 #[.int .i64 k] w fun e w'=>e=.returned (.bool (decide (1≤k∧k≤24)))∧w=w':=by
 by_cases h1:1≤k
 ·have d1:decide (1≤k)=true:=by simp [h1]
  go_enter Tryz.func121,Tryz.ntmps121
  go_wp2;go_ret;exact ⟨by simp [h1],rfl⟩
 ·have d1:decide (1≤k)=false:=by simp [h1]
  go_enter Tryz.func121,Tryz.ntmps121
  go_wp2;go_ret;exact ⟨by simp [h1],rfl⟩
theorem evWithin (n r:Nat) (hr:r≤14) (w:World):Calls Tryz.prog 123 #[.int .u32 n, .int .i64 r] w fun e w' => e=.returned (.bool (win n r))∧w=w' := by
  match r, hr with
  | 0, _ | 1, _ | 2, _ | 3, _ | 4, _ | 5, _ | 6, _ | 7, _ | 10, _ | 11, _ | 13, _ | 14, _ =>
    go_enter Tryz.func123, Tryz.ntmps123
    go_wp2;go_ret;refine ⟨?_, rfl⟩;simp only [win]
    try congr 3
    try first | rfl | (congr 1; simp; try omega)
  | 8, _ =>
    by_cases h:n<64
    all_goals
      first | have hd:decide ((n:Int)<64)=true := by simp; omega
            | have hd:decide ((n:Int)<64)=false := by simp; omega
      go_enter Tryz.func123, Tryz.ntmps123
      go_wp2;go_ret;exact ⟨retB (by rw [Bool.eq_iff_iff]; simp [win, h]; try omega), rfl⟩
  | 9, _ =>
    by_cases h:n=0
    · subst h
      go_enter Tryz.func123, Tryz.ntmps123
      go_wp2;go_ret;exact ⟨rfl, rfl⟩
    · have h0:((n:Int)==0)=false := by simp [h]
      by_cases h3:32≤n
      all_goals
        first | have hd:decide ((32:Int)≤(n:Int))=true := by simp; omega
              | have hd:decide ((32:Int)≤(n:Int))=false := by simp; omega
        go_enter Tryz.func123, Tryz.ntmps123
        go_wp2;go_ret;exact ⟨retB (by rw [Bool.eq_iff_iff]; simp [win, h, h3]; try omega), rfl⟩
  | 12, _ =>
    by_cases h:1≤n
    all_goals
      first | have hd:decide ((1:Int)≤(n:Int))=true := by simp; omega
            | have hd:decide ((1:Int)≤(n:Int))=false := by simp; omega
      go_enter Tryz.func123, Tryz.ntmps123
      go_wp2;go_ret;exact ⟨retB (by rw [Bool.eq_iff_iff]; simp [win, h]; try omega), rfl⟩
def shV (k:Nat):Value:=.agg #[.int .i64 (shp k).1,.int .i64 (shp k).2.1,.int .i64 (shp k).2.2]
theorem evOther (k:Nat) (hk:14≤k∧k≤24∧k≠20) (w0 w:World) (P:HP) [hs:Sat w0 w P]:Calls Tryz.prog 154 #[.int .i64 k] w (RetV w0 (shV k) P):=by
 have h:k=14∨k=15∨k=16∨k=17∨k=18∨k=19∨k=21∨k=22∨k=23∨k=24:=by omega
 rcases h with rfl | rfl | rfl | rfl | rfl | rfl | rfl | rfl | rfl | rfl
 all_goals
  go_enter Tryz.func154,Tryz.ntmps154
  go_wp2;go_returns;exact ⟨rfl,own_left⟩
theorem evShape (k:Nat) (hk:1≤k∧k≤24) (w0 w:World) (P:HP) [hs:Sat w0 w P]:Calls Tryz.prog 122 #[.int .i64 k] w (RetV w0 (shV k) P):=by
 have h:k=1∨k=2∨k=3∨k=4∨k=5∨k=6∨k=7∨k=8∨k=9∨k=10∨k=11∨k=12∨k=13∨k=20∨(14≤k∧k≤24∧k≠20):=by omega
 rcases h with rfl | rfl | rfl | rfl | rfl | rfl | rfl | rfl | rfl | rfl | rfl | rfl | rfl | rfl | h
 iterate 14
  focus
   go_enter Tryz.func122,Tryz.ntmps122
   go_wp2;go_returns;exact ⟨rfl,own_left⟩
 have h1:k=14∨k=15∨k=16∨k=17∨k=18∨k=19∨k=21∨k=22∨k=23∨k=24:=by omega
 rcases h1 with rfl | rfl | rfl | rfl | rfl | rfl | rfl | rfl | rfl | rfl
 all_goals
  go_enter Tryz.func122,Tryz.ntmps122
  go_wp2_with fail;refine (evOther _ (by decide) w0 _ _).mono ?_;rintro e w' ⟨rfl,hs1⟩;dsimp only [shV,shp];go_wp2;go_returns;exact ⟨rfl,own_left⟩
theorem evCheck (k:Int) (cy co:Int) (a b v:Nat) (w0 w:World) (P:HP) [hs:Sat w0 w P] :
  Calls Tryz.prog 89 #[.agg #[.int .i64 k,.int .u64 cy,.int .u64 co,.int .u32 a,.int .u32 b,.int .u32 v]] w fun e w'=>∃ n:Int,e=.returned (.int .i64 n)∧(n=0↔okE ⟨k,cy,co,a,b,v⟩=true)∧Sat w0 w' P:=by
 by_cases hk:1≤k∧k≤24
 ·obtain ⟨n,rfl⟩:=Int.eq_ofNat_of_zero_le (show 0≤k by omega);have hn:1≤n∧n≤24:=by omega
  have hd:decide (1≤(n:Int)∧(n:Int)≤24)=true:=by simp;omega
  have Hok:Hid (okE ⟨n,cy,co,a,b,v⟩=okN n a b v):=by simp [Hid,okE,hd]
  have Hsh:=hid (show shV n=.agg #[.int .i64 (shp n).1,.int .i64 (shp n).2.1,.int .i64 (shp n).2.2] from rfl);have Hr:Hid ((shp n).1≤14∧(shp n).2.1≤14∧(shp n).2.2≤14):=by
   have h:∀ m:Fin 25,(shp m).1≤14∧(shp m).2.1≤14∧(shp m).2.2≤14:=by decide
   exact h ⟨n,by omega⟩
  have Hn:Hid (okN n a b v=(win a (shp n).1 && win b (shp n).2.1 && win v (shp n).2.2 && !(decide (n=5) && decide (a=b)))):=rfl;generalize shp n=s at *;obtain ⟨s1,s2,s3⟩:=s;dsimp only at Hsh Hr Hn;have hr1:=Hr.out.1;have hr2:=Hr.out.2.1;have hr3:=Hr.out.2.2
  by_cases h1:win a s1=true
  ·by_cases h2:win b s2=true
   ·by_cases h3:win v s3=true
    ·by_cases h4:n=5
     ·subst h4
      by_cases h5:a=b
      all_goals
       have hab:((a:Int)==(b:Int))=decide (a=b):=by rw [Bool.eq_iff_iff];simp;try omega
       first | rw [decide_eq_true h5] at hab | rw [decide_eq_false h5] at hab
       have H5:=hid h5;clear h5
       go_enter Tryz.func89,Tryz.ntmps89
       go_wp2_with fail;refine (evIs _ _).mono ?_;rintro e w' ⟨rfl,rfl⟩;rw [show decide ((1:Int)≤5∧(5:Int)≤24)=true by decide];go_wp2_with fail;refine (evShape _ hn w0 _ _).mono ?_;rintro e w1 ⟨rfl,hs1⟩;rw [Hsh.out];go_wp2_with fail;refine (evWithin a s1 hr1 _).mono ?_;rintro e w' ⟨rfl,rfl⟩;rw [h1];go_wp2_with fail;refine (evWithin b s2 hr2 _).mono ?_;rintro e w' ⟨rfl,rfl⟩;rw [h2];go_wp2_with fail;refine (evWithin v s3 hr3 _).mono ?_;rintro e w' ⟨rfl,rfl⟩;rw [h3];go_wp2_with fail;go_ret;refine ⟨_,rfl,?_,own_left⟩;rw [Hok.out,Hn.out];have h5:=H5.out;simp [h1,h2,h3,h5]
     ·have h5:((n:Int)==5)=false:=by simp;omega
      go_enter Tryz.func89,Tryz.ntmps89
      go_wp2_with fail;refine (evIs _ _).mono ?_;rintro e w' ⟨rfl,rfl⟩;rw [hd];go_wp2_with fail;refine (evShape _ hn w0 _ _).mono ?_;rintro e w1 ⟨rfl,hs1⟩;rw [Hsh.out];go_wp2_with fail;refine (evWithin a s1 hr1 _).mono ?_;rintro e w' ⟨rfl,rfl⟩;rw [h1];go_wp2_with fail;refine (evWithin b s2 hr2 _).mono ?_;rintro e w' ⟨rfl,rfl⟩;rw [h2];go_wp2_with fail;refine (evWithin v s3 hr3 _).mono ?_;rintro e w' ⟨rfl,rfl⟩;rw [h3];go_wp2_with fail;go_ret;refine ⟨_,rfl,?_,own_left⟩;rw [Hok.out,Hn.out];simp [h1,h2,h3,h4]
    ·have h3:win v s3=false:=by simpa using h3
     go_enter Tryz.func89,Tryz.ntmps89
     go_wp2_with fail;refine (evIs _ _).mono ?_;rintro e w' ⟨rfl,rfl⟩;rw [hd];go_wp2_with fail;refine (evShape _ hn w0 _ _).mono ?_;rintro e w1 ⟨rfl,hs1⟩;rw [Hsh.out];go_wp2_with fail;refine (evWithin a s1 hr1 _).mono ?_;rintro e w' ⟨rfl,rfl⟩;rw [h1];go_wp2_with fail;refine (evWithin b s2 hr2 _).mono ?_;rintro e w' ⟨rfl,rfl⟩;rw [h2];go_wp2_with fail;refine (evWithin v s3 hr3 _).mono ?_;rintro e w' ⟨rfl,rfl⟩;rw [h3];go_wp2_with fail;go_ret;refine ⟨_,rfl,?_,own_left⟩;rw [Hok.out,Hn.out];simp [h1,h2,h3]
   ·have h2:win b s2=false:=by simpa using h2
    go_enter Tryz.func89,Tryz.ntmps89
    go_wp2_with fail;refine (evIs _ _).mono ?_;rintro e w' ⟨rfl,rfl⟩;rw [hd];go_wp2_with fail;refine (evShape _ hn w0 _ _).mono ?_;rintro e w1 ⟨rfl,hs1⟩;rw [Hsh.out];go_wp2_with fail;refine (evWithin a s1 hr1 _).mono ?_;rintro e w' ⟨rfl,rfl⟩;rw [h1];go_wp2_with fail;refine (evWithin b s2 hr2 _).mono ?_;rintro e w' ⟨rfl,rfl⟩;rw [h2];go_wp2_with fail;go_ret;refine ⟨_,rfl,?_,own_left⟩;rw [Hok.out,Hn.out];simp [h1,h2]
  ·have h1:win a s1=false:=by simpa using h1
   go_enter Tryz.func89,Tryz.ntmps89
   go_wp2_with fail;refine (evIs _ _).mono ?_;rintro e w' ⟨rfl,rfl⟩;rw [hd];go_wp2_with fail;refine (evShape _ hn w0 _ _).mono ?_;rintro e w1 ⟨rfl,hs1⟩;rw [Hsh.out];go_wp2_with fail;refine (evWithin a s1 hr1 _).mono ?_;rintro e w' ⟨rfl,rfl⟩;rw [h1];go_wp2_with fail;go_ret;refine ⟨_,rfl,?_,own_left⟩;rw [Hok.out,Hn.out];simp [h1]
 ·have hd:decide (1≤k∧k≤24)=false:=by simp;omega
  go_enter Tryz.func89,Tryz.ntmps89
  go_wp2_with fail;refine (evIs _ _).mono ?_;rintro e w' ⟨rfl,rfl⟩;rw [hd];go_wp2_with fail;go_ret;refine ⟨_,rfl,?_,own_left⟩;simp [okE];omega
instance encTk:Enc Tk 5 where
 enc t:=[.int .i64 t.st,.int .i64 t.late,.int .u32 t.on,.int .u32 t.job,.int .i64 t.lev]
 len _:=rfl
 one t:=by intro u hu;simp at hu;rcases hu with rfl | rfl | rfl | rfl | rfl<;>rfl
 dft:=tk0
 pos:=by decide
instance (x:Tk):EncAt x 0 (.int .i64 x.st):=⟨rfl⟩
instance (x:Tk):EncAt x 1 (.int .i64 x.late):=⟨rfl⟩
instance (x:Tk):EncAt x 2 (.int .u32 x.on):=⟨rfl⟩
instance (x:Tk):EncAt x 3 (.int .u32 x.job):=⟨rfl⟩
instance (x:Tk):EncAt x 4 (.int .i64 x.lev):=⟨rfl⟩
instance (x:Tk) (n:Int):EncSet x 0 (.int .i64 n) { x with st:=n }:=⟨rfl,by decide⟩
instance (x:Tk) (n:Int):EncSet x 1 (.int .i64 n) { x with late:=n }:=⟨rfl,by decide⟩
instance (x:Tk) (n:Nat):EncSet x 2 (.int .u32 n) { x with on:=n }:=⟨rfl,by decide⟩
instance (x:Tk) (n:Nat):EncSet x 3 (.int .u32 n) { x with job:=n }:=⟨rfl,by decide⟩
instance (x:Tk) (n:Int):EncSet x 4 (.int .i64 n) { x with lev:=n }:=⟨rfl,by decide⟩
instance ltSet {α:Type} (l:List α) (k j:Nat) (x:α) [h:Lt k l.length]:Lt k (l.set j x).length:=⟨by rw [List.length_set];exact h.lt⟩
instance (priority:=1300) (b o k:Nat) (l:List Tk) [h:Lt k l.length]:Cell (arrP b o l) b (o+k*5) (.int .i64 (tkg l k).st):=Cell.arr0 b o k l _
instance (priority:=1300) (b o k:Nat) (l:List Tk) [h:Lt k l.length]:Cell (arrP b o l) b (o+k*5+1) (.int .i64 (tkg l k).late):=Cell.arr b o k 1 l _
instance (priority:=1300) (b o k:Nat) (l:List Tk) [h:Lt k l.length]:Cell (arrP b o l) b (o+k*5+2) (.int .u32 (tkg l k).on):=Cell.arr b o k 2 l _
instance (priority:=1300) (b o k:Nat) (l:List Tk) [h:Lt k l.length]:Cell (arrP b o l) b (o+k*5+3) (.int .u32 (tkg l k).job):=Cell.arr b o k 3 l _
instance (priority:=1300) (b o k:Nat) (l:List Tk) [h:Lt k l.length]:Cell (arrP b o l) b (o+k*5+4) (.int .i64 (tkg l k).lev):=Cell.arr b o k 4 l _
theorem getD_set_self {α:Type} {l:List α} {k:Nat} (h:k<l.length) (x d:α):(l.set k x).getD k d=x:=by simp [List.getD,h]
theorem arr_set_cell {b o k c:Nat} {l:List Tk} {x:Tk} {v:Value} (h:k<l.length) (hc:(encTk.enc x)[c]?=some v) {w0 w:World} {F:HP} (hs:Sat w0 w (arrP b o (l.set k x)*F)):w.cell? ⟨b,o+k*5+c,none⟩=some v∧w.frozen? ⟨b,o+k*5+c,none⟩=false :=
 arr_cell hs (by rw [List.length_set];exact h) (by rw [getD_set_self h];exact hc)
instance (priority:=1400) (b o k:Nat) (l:List Tk) (x:Tk) [h:Lt k l.length]:Cell (arrP b o (l.set k x)) b (o+k*5) (.int .i64 x.st):=⟨fun hs=>(arr_set_cell (c:=0) h.lt rfl hs).1,fun hs=>(arr_set_cell (c:=0) h.lt rfl hs).2⟩
instance (priority:=1400) (b o k:Nat) (l:List Tk) (x:Tk) [h:Lt k l.length]:Cell (arrP b o (l.set k x)) b (o+k*5+1) (.int .i64 x.late):=⟨fun hs=>(arr_set_cell h.lt rfl hs).1,fun hs=>(arr_set_cell h.lt rfl hs).2⟩
instance (priority:=1400) (b o k:Nat) (l:List Tk) (x:Tk) [h:Lt k l.length]:Cell (arrP b o (l.set k x)) b (o+k*5+2) (.int .u32 x.on):=⟨fun hs=>(arr_set_cell h.lt rfl hs).1,fun hs=>(arr_set_cell h.lt rfl hs).2⟩
instance (priority:=1400) (b o k:Nat) (l:List Tk) (x:Tk) [h:Lt k l.length]:Cell (arrP b o (l.set k x)) b (o+k*5+3) (.int .u32 x.job):=⟨fun hs=>(arr_set_cell h.lt rfl hs).1,fun hs=>(arr_set_cell h.lt rfl hs).2⟩
instance (priority:=1400) (b o k:Nat) (l:List Tk) (x:Tk) [h:Lt k l.length]:Cell (arrP b o (l.set k x)) b (o+k*5+4) (.int .i64 x.lev):=⟨fun hs=>(arr_set_cell h.lt rfl hs).1,fun hs=>(arr_set_cell h.lt rfl hs).2⟩
theorem arr_set_upd {b o k c:Nat} {l:List Tk} {x x':Tk} {v:Value} (h:k<l.length) (e:EncSet x c v x') {w0 w:World} {F:HP} (hs:Sat w0 w (arrP b o (l.set k x)*F)):Sat w0 (w.setCell ⟨b,o+k*5+c,none⟩ v) (arrP b o (l.set k x')*F):=by
 have:=arr_upd hs (k:=k) (c:=c) (v:=v) (x':=x') (by rw [List.length_set];exact h) e.lt (by rw [getD_set_self h];exact e.set_)
 rwa [List.set_set] at this
instance (priority:=1400) (b o k c:Nat) (l:List Tk) (x x':Tk) (v:Value) [h:Lt k l.length] [e:EncSet x c v x']:Upd (arrP b o (l.set k x)) b (o+k*5+c) v (arrP b o (l.set k x')):=⟨fun hs=>arr_set_upd h.lt e hs⟩
instance (priority:=1410) (b o k:Nat) (l:List Tk) (x x':Tk) (v:Value) [h:Lt k l.length] [e:EncSet x 0 v x']:Upd (arrP b o (l.set k x)) b (o+k*5) v (arrP b o (l.set k x')):=⟨fun hs=>arr_set_upd h.lt e hs⟩
instance (priority:=1300) (b o k:Nat) (l:List Tk) (x':Tk) (c:Nat) (v:Value) [h:Lt k l.length] [e:EncSet (tkg l k) c v x']:Upd (arrP b o l) b (o+k*5+c) v (arrP b o (l.set k x')):=⟨fun hs=>arr_upd hs h.lt e.lt e.set_⟩
instance (priority:=1310) (b o k:Nat) (l:List Tk) (x':Tk) (v:Value) [h:Lt k l.length] [e:EncSet (tkg l k) 0 v x']:Upd (arrP b o l) b (o+k*5) v (arrP b o (l.set k x')):=⟨fun hs=>arr_upd hs h.lt e.lt e.set_⟩
instance (priority:=1300) (b o k:Nat) (l:List Int) [h:Lt k l.length]:Cell (pts b o (l.map (Value.int .i64))) b (o+k) (.int .i64 (owg l k)):=Cell.num .i64 b o k l
abbrev duCells (d:Du):List Value:=[.int .i64 d.k,.int .u32 d.a,.int .u32 d.b]
def auP (b:Nat) (A:Au):HP :=
 pts b 0 [.int .i64 A.seen,.bool false]*(pts b 2 (evCells A.last)*(pts b 8 (duCells A.due)*(arrP b 11 A.ts*(pts b 331 (A.ow.map (Value.int .i64))*(pts b 363 (A.pn.map Value.bool)*pts b 379 [.int .i64 A.isr,.int .i64 A.run])))))
theorem auP_out {w0 w:World} {F:HP} {b:Nat} {A:Au} (hs:Sat w0 w (auP b A*F)) :
  Sat w0 w (pts b 0 [.int .i64 A.seen,.bool false]*(pts b 2 (evCells A.last)*(pts b 8 (duCells A.due)*(arrP b 11 A.ts*(pts b 331 (A.ow.map (Value.int .i64))*(pts b 363 (A.pn.map Value.bool)*(pts b 379 [.int .i64 A.isr,.int .i64 A.run]*F))))))):=hs.perm (by unfold auP;ac_rfl)
theorem auP_of {w0 w:World} {F:HP} {b:Nat} {A:Au} (hs:Sat w0 w (pts b 0 [.int .i64 A.seen,.bool false]*(pts b 2 (evCells A.last)*(pts b 8 (duCells A.due)*(arrP b 11 A.ts*(pts b 331 (A.ow.map (Value.int .i64))*(pts b 363 (A.pn.map Value.bool)*(pts b 379 [.int .i64 A.isr,.int .i64 A.run]*F)))))))):Sat w0 w (auP b A*F):=hs.perm (by unfold auP;ac_rfl)
theorem auActs (b:Nat) (A:Au) (x:Nat) (w0 w:World) (F:HP) (hs:Sat w0 w (auP b A*F)) (hA:AOk A) (hx:x<4294967296) :
  Calls Tryz.prog 125 #[.pointer (some ⟨b,0,none⟩),.int .u32 x] w fun e w'=>e=.returned (.bool (acts A x))∧w=w':=by
 have hs:=auP_out hs;have hl:=hA.lt;have Hl:=hid hl;have hi:=hA.isr;have hr:=hA.run
 by_cases h1:x<64
 ·have d1:decide (x<64)=true:=by simp;omega
  haveI:Lt x A.ts.length:=⟨by omega⟩;have Hres:Hid (acts A x=(decide (A.isr=0) && decide (A.run=(x:Int)+1) && decide ((tkg A.ts x).st=1))):=by unfold Hid acts;rw [if_pos h1];rfl
  by_cases h2:A.isr=0
  ·have d2:(A.isr==0)=true:=by simp [h2]
   have d2':decide (A.isr=0)=true:=by simp [h2]
   rw [d2'] at Hres;clear d2' h2 hl
   by_cases h3:A.run=(x:Int)+1
   ·have d3:(A.run==(x:Int)+1)=true:=by simp [h3]
    have d3':decide (A.run=(x:Int)+1)=true:=by simp [h3]
    rw [d3'] at Hres;clear d3' h3
    go_enter Tryz.func125,Tryz.ntmps125
    go_wp2;go_ret;exact ⟨retB (by rw [Hres.out,Bool.eq_iff_iff];simp),rfl⟩
   ·have d3:(A.run==(x:Int)+1)=false:=by simp [h3]
    have d3':decide (A.run=(x:Int)+1)=false:=by simp [h3]
    rw [d3'] at Hres;clear d3' h3
    go_enter Tryz.func125,Tryz.ntmps125
    go_wp2;go_ret;exact ⟨retB (by rw [Hres.out,Bool.eq_iff_iff];simp),rfl⟩
  ·have d2:(A.isr==0)=false:=by simp [h2]
   have d2':decide (A.isr=0)=false:=by simp [h2]
   rw [d2'] at Hres;clear d2' h2 hl
   go_enter Tryz.func125,Tryz.ntmps125
   go_wp2;go_ret;exact ⟨retB (by rw [Hres.out,Bool.eq_iff_iff];simp),rfl⟩
 ·have d1:decide ((x:Int)<64)=false:=by simp;omega
  by_cases h2:x<80
  ·have Hres:Hid (acts A x=decide (A.isr=(x:Int)-63)):=by simp [Hid,acts,h1,h2]
   clear hl
   go_enter Tryz.func125,Tryz.ntmps125
   go_wp2;go_ret;exact ⟨retB (by rw [Hres.out,Bool.eq_iff_iff];simp;omega),rfl⟩
  ·have Hres:Hid (acts A x=decide (A.last.k=18)):=by simp [Hid,acts,h1,h2]
   clear hl
   go_enter Tryz.func125,Tryz.ntmps125
   go_wp2;go_ret;exact ⟨retB (by rw [Hres.out,Bool.eq_iff_iff];simp),rfl⟩
theorem retM {x x':Int} {p p':Bool} (h1:x=x') (h2:p=p'):Ending.returned (.tuple #[.int .u32 x,.bool p])=Ending.returned (.tuple #[.int .u32 x',.bool p']):=by rw [h1,h2]
theorem auMutex (y:Nat) (hy:y<160) (w:World):Calls Tryz.prog 155 #[.int .u32 y] w fun e w'=>(∃ z:Nat,e=.returned (.tuple #[.int .u32 z,.bool (isMu y)])∧(isMu y=true→z=y-32))∧w=w':=by
 by_cases h:32≤y
 ·have d:decide ((32:Int)≤(y:Int))=true:=by simp;omega
  go_enter Tryz.func155,Tryz.ntmps155
  go_wp2;go_ret2;exact ⟨⟨(((y:Int)-32)%4294967296).toNat,retM (by omega) (by rw [Bool.eq_iff_iff];simp [isMu,h];try omega),fun _=>by omega⟩,rfl⟩
 ·have d:decide ((32:Int)≤(y:Int))=false:=by simp;omega
  go_enter Tryz.func155,Tryz.ntmps155
  go_wp2;go_ret2;exact ⟨⟨(((y:Int)-32)%4294967296).toNat,retM (by omega) (by rw [Bool.eq_iff_iff];simp [isMu,h];try omega),fun h'=>by simp [isMu,h] at h'⟩,rfl⟩
def Aft (w0:World) (pb:Nat) (A:Au) (k a b v:Nat) (had:Bool) (F:HP) (e:Ending) (w':World):Prop :=
 e=.returned (.bool (rule A k a b v had))∧(rule A k a b v had=true→Sat w0 w' (auP pb (learn A k a b v)*F))∧(rule A k a b v had=false→Sat w0 w' (pts pb 0 [.int .i64 A.seen,.bool false]*(F*any)))
theorem learn_seen (A:Au) (k a b v:Nat):(learn A k a b v).seen=A.seen:=by
 unfold learn setT
 repeat' (first | rfl | split)
section
variable {w0 w':World} {pb:Nat} {A:Au} {k a b v:Nat} {had x:Bool} {F:HP}
theorem aft_no (hr:rule A k a b v had=false) (hx:x=false) (hs:Sat w0 w' (pts pb 0 [.int .i64 A.seen,.bool false]*(F*any))):Aft w0 pb A k a b v had F (.returned (.bool x)) w' :=
 ⟨by rw [hr,hx],fun h=>(by rw [hr] at h;cases h),fun _=>hs⟩
theorem aft_both (hx:x=rule A k a b v had) (hs:Sat w0 w' (auP pb (learn A k a b v)*F)):Aft w0 pb A k a b v had F (.returned (.bool x)) w':=by
 refine ⟨by rw [hx],fun _=>hs,fun _=>?_⟩;have hs:=auP_out hs;rw [learn_seen] at hs;exact own_left
end
abbrev evA (k a b v:Nat) (cy co:Int):Value:=.agg #[.int .i64 k,.int .u64 cy,.int .u64 co,.int .u32 a,.int .u32 b,.int .u32 v]
theorem auLines1 (pb:Nat) (A:Au) (a b v:Nat) (had:Bool) (cy co:Int) (w0 w:World) (F:HP) (hs:Sat w0 w (auP pb A*F)) (hA:AOk A) (ha:a<16) :
  Calls Tryz.prog 124 #[.pointer (some ⟨pb,0,none⟩),evA 1 a b v cy co] w (Aft w0 pb A 1 a b v had F):=by
 have hs:=auP_out hs;have d1:decide (a<16)=true:=by simp;omega
 have i1:(a:Int)<16:=by omega
 haveI:Lt a A.pn.length:=⟨by rw [hA.lp];omega⟩
 go_enter Tryz.func124,Tryz.ntmps124
 go_wp2_with fail;go_quiet (fail);go_wp2_with fail;refine wp_gen (w0:=w0) ?_;intro wx hsx;go_still_tail 6,(by kernel_rfl);change wpList _ _ _ _ _ wx.drew;go_wp2_with fail;go_ret;refine aft_both (by rw [show rule A 1 a b v had=(A.pn.getD a false==decide (b=1)) from rfl,show decide (b=1)=((b:Int)==1) by rw [Bool.eq_iff_iff];simp;omega];simp) (auP_of ?_);dsimp only [learn,setT,tkAt,owAt];exact own_left
theorem auLines3 (pb:Nat) (A:Au) (a b v:Nat) (had:Bool) (cy co:Int) (w0 w:World) (F:HP) (hs:Sat w0 w (auP pb A*F)) (hA:AOk A) (ha:a<16) :
    Calls Tryz.prog 124 #[.pointer (some ⟨pb, 0, none⟩), evA 3 a b v cy co] w (Aft w0 pb A 3 a b v had F) := by
  have hs := auP_out hs;have d1:decide (a<16)=true := by simp; omega
  have i1:(a:Int)<16 := by omega
  haveI:Lt a A.pn.length := ⟨by rw [hA.lp]; omega⟩;have Hr:Hid (rule A 3 a b v had=(decide (A.isr=0) && A.pn.getD a false)) := rfl
  by_cases h1:A.isr=0
  all_goals
    first | have d2:(A.isr==0)=true := by simp [h1]
          | have d2:(A.isr==0)=false := by simp [h1]
    first | rw [decide_eq_true h1] at Hr | rw [decide_eq_false h1] at Hr
    clear h1
    go_enter Tryz.func124, Tryz.ntmps124
    go_wp2_with fail;go_quiet (fail); go_wp2_with fail;refine wp_gen (w0 := w0) ?_; intro wx hsx; go_still_tail 6, (by kernel_rfl); change wpList _ _ _ _ _ wx.drew; go_wp2_with fail;go_ret;refine aft_both (by rw [Hr.out]; simp) (auP_of ?_); dsimp only [learn, setT, tkAt, owAt]; exact own_left
theorem auLines4 (pb:Nat) (A:Au) (a b v:Nat) (had:Bool) (cy co:Int) (w0 w:World) (F:HP) (hs:Sat w0 w (auP pb A*F)) (ha:a<16) :
  Calls Tryz.prog 124 #[.pointer (some ⟨pb,0,none⟩),evA 4 a b v cy co] w (Aft w0 pb A 4 a b v had F):=by
 have hs:=auP_out hs;have i1:(a:Int)<16:=by omega
 go_enter Tryz.func124,Tryz.ntmps124
 go_wp2_with fail;go_quiet (fail);go_wp2_with fail;go_ret;refine aft_both (by rw [Bool.eq_iff_iff];simp [rule]) (auP_of ?_);dsimp only [learn,setT,tkAt,owAt];exact own_left
theorem auOver (pb:Nat) (A:Au) (k a b v:Nat) (hk:k=21∨k=22∧a<64) (had:Bool) (cy co:Int) (w0 w:World) (F:HP) (hs:Sat w0 w (auP pb A*F)) (hA:AOk A) (ha:a<80) :
  Calls Tryz.prog 130 #[.pointer (some ⟨pb,0,none⟩),evA k a b v cy co] w (Aft w0 pb A k a b v had F):=by
 have Hr:Hid (rule A k a b v had=acts A a):=by rcases hk with rfl | ⟨rfl,_⟩<;>rfl
 have hs0:=hs;have hs:=auP_out hs
 by_cases h1:a<64
 ·have d1:decide ((a:Int)<64)=true:=by simp;omega
  have d2:decide (a<64)=true:=by simp;omega
  have i1:(a:Int)<64:=by omega
  haveI:Lt a A.ts.length:=⟨by rw [hA.lt];omega⟩;have Hl:Hid (learn A k a b v=setT A a { tkAt A a with st:=3 }):=by rcases hk with rfl | ⟨rfl,_⟩<;>simp [Hid,learn,h1]
  go_enter Tryz.func130,Tryz.ntmps130
  go_wp2_with fail;refine (auActs pb A a w0 _ any (auP_of own_left) hA (by omega)).mono ?_;rintro e w' ⟨rfl,rfl⟩;rw [← Hr.out];go_wp2_with fail;refine wp_gen (w0:=w0) ?_;intro wx hsx;go_still_tail 7,(by kernel_rfl);change wpList _ _ _ _ _ wx.drew;go_wp2_with fail;go_ret;refine aft_both rfl (auP_of ?_);rw [Hl.out];dsimp only [setT,tkAt];exact own_left
 ·have d1:decide ((a:Int)<64)=false:=by simp;omega
  obtain rfl:k=21:=by omega
  have Hl:Hid (learn A 21 a b v={ A with due:=⟨4,a-64,0⟩ }):=by simp [Hid,learn,h1]
  have hsub:((a-64:Nat):Int)=(a:Int)-64:=by omega
  go_enter Tryz.func130,Tryz.ntmps130
  go_wp2_with fail;refine (auActs pb A a w0 _ any (auP_of own_left) hA (by omega)).mono ?_;rintro e w' ⟨rfl,rfl⟩;rw [← Hr.out];go_wp2_with fail;go_ret;refine aft_both rfl (auP_of ?_);rw [Hl.out];dsimp only [duCells];rw [hsub];exact own_left
theorem all_next {ts:List Tk} {k:Nat} (hk:k<ts.length) (p:Tk→Bool):(ts.take (k+1)).all p=((ts.take k).all p && p (tkg ts k)):=by
 rw [List.take_succ_eq_append_getElem hk,List.all_append];simp [tkg,List.getD,hk]
theorem rule5 (A:Au) (a b v:Nat) (had:Bool):rule A 5 a b v had=(decide (A.isr=0) && decide (A.run=if b=255 then 0 else (b:Int)+1) && (if a=255 then nobody A else decide ((tkAt A a).st=1))):=rfl
theorem auChange (pb:Nat) (A:Au) (a b v:Nat) (had:Bool) (cy co:Int) (w0 w:World) (F:HP) (hs:Sat w0 w (auP pb A*F)) (hA:AOk A) (ha:a<64∨a=255) (hb:b<64∨b=255) :
    Calls Tryz.prog 126 #[.pointer (some ⟨pb, 0, none⟩), evA 5 a b v cy co] w (Aft w0 pb A 5 a b v had F) := by
  have hs := auP_out hs;have Hr := hid (rule5 A a b v had);generalize hwb:(if b=255 then (0:Int) else (b:Int)+1)=wb at Hr;generalize hO:(decide (A.isr=0) && decide (A.run=wb))=O at Hr;have Hwb := hid hwb;have HO := hid hO;have hb2:b<256 := by omega
  have ha2:a<256 := by omega
  have Hb := hid hb;have Ha := hid ha;have hlt := hA.lt;have Hlt := hid hlt;clear hwb hb ha hO hlt
  by_cases h1:b=255
  all_goals
    first
      | have e1:((b:Int) != 255)=false := by simp [h1]
      | have e1:((b:Int) != 255)=true := by simp; omega
    have Hw2 := Hwb.out
    first | rw [if_pos h1] at Hw2 | rw [if_neg h1] at Hw2
    subst Hw2;clear h1
    by_cases h2:A.isr=0
    all_goals
      first | have e2:(A.isr==0)=true := by simp [h2]
            | have e2:(A.isr==0)=false := by simp [h2]
      first | rw [decide_eq_true h2, Bool.true_and] at HO | rw [decide_eq_false h2, Bool.false_and] at HO
      clear h2
      by_cases h3:a=255
      · have e3:((a:Int)==255)=true := by simp [h3]
        rw [if_pos h3] at Hr;have Hl:Hid (learn A 5 a b v={ A with run := 0 }) := by simp [Hid, learn, h3]
        clear h3
        go_enter Tryz.func126, Tryz.ntmps126
        go_wp2_with fail
        go_loop [31, 6] (fun iv okv => ∃ (k:Nat) (x:Bool), k≤64∧iv=.int .i64 k∧okv=.bool x∧x=(O && (A.ts.take k).all fun t => decide (t.st≠1))) (fun iv _ => 64-(intOf iv).toNat)
        case atStart => exact ⟨0, _, by omega, rfl, rfl, by rw [← HO.out]; first | rfl | (rw [Bool.eq_iff_iff]; simp)⟩
        case round =>
          obtain ⟨k, x, hk, rfl, rfl, hx⟩ := hrel;have Hx := hid hx;clear hx
          by_cases hk64:k<64
          · have i1:(k:Int)<64 := by omega
            have i2:decide (k<64)=true := by simp; omega
            haveI:Lt k A.ts.length := ⟨by have := Hlt.out; omega⟩;have Hn := hid (all_next (ts := A.ts) (k := k) (by have := Hlt.out; omega) (fun t => decide (t.st≠1)))
            cases x
            all_goals
              go_wp2_with fail
              go_round
              case rel =>
                refine ⟨k+1, _, by omega, by go_num, rfl, ?_⟩;rw [Hn.out, ← Bool.and_assoc, ← Hx.out]
                first | rfl | (rw [Bool.eq_iff_iff]; simp)
              case measure => simp [intOf]; omega
          · have hke:k=64 := by omega
            subst hke;have i1:¬ ((64:Int)<64) := by omega
            go_wp2_with fail;go_ret;refine aft_both ?_ (auP_of ?_)
            · rw [Hr.out, nobody]
              have := Hx.out;rw [List.take_of_length_le (by have := Hlt.out; omega)] at this;rw [← this]
            · rw [Hl.out]
              exact own_left
      · have e3:((a:Int)==255)=false := by simp; omega
        rw [if_neg h3] at Hr;have Hl:Hid (learn A 5 a b v={ A with run := (a:Int)+1 }) := by simp [Hid, learn, h3]
        have ha64:a<64 := by have := Ha.out; omega
        have i1:(a:Int)<64 := by omega
        have i2:decide (a<64)=true := by simp; omega
        haveI:Lt a A.ts.length := ⟨by have := Hlt.out; omega⟩;clear h3
        first
          | (cases O
             all_goals
               have HO2 := HO.out;rw [← Bool.beq_eq_decide_eq] at HO2
               go_enter Tryz.func126, Tryz.ntmps126
               go_wp2_with fail;go_quiet (fail); go_wp2_with fail;go_ret;refine aft_both ?_ (auP_of ?_)
               · rw [Hr.out]; first | rfl | (rw [Bool.eq_iff_iff]; simp [tkAt])
               · rw [Hl.out]
                 exact own_left)
          | (have HO2 := HO.out
             subst HO2
             go_enter Tryz.func126, Tryz.ntmps126
             go_wp2_with fail;go_quiet (fail); go_wp2_with fail;go_ret;refine aft_both ?_ (auP_of ?_)
             · rw [Hr.out]; first | rfl | (rw [Bool.eq_iff_iff]; simp [tkAt])
             · rw [Hl.out]
               exact own_left)
theorem getD_mem {α:Type} {l:List α} {k:Nat} (h:k<l.length) (d:α):l.getD k d∈l:=by
 simp only [List.getD,List.getElem?_eq_getElem h,Option.getD_some];exact List.getElem_mem h
theorem tkg_mem {l:List Tk} {k:Nat} (h:k<l.length):tkg l k∈l:=getD_mem h tk0
theorem nbq (x y:Nat):((x:Int)==((y:Int)+1)%4294967296)=decide (x=(y+1)%4294967296):=by rw [Bool.eq_iff_iff,beq_iff_eq,decide_eq_true_eq];omega
theorem rule6 (A:Au) (a b v:Nat) (had:Bool):rule A 6 a b v had=(decide ((tkAt A a).st=0) && decide (v=((tkAt A a).job+1)%4294967296)):=rfl
theorem learn6 (A:Au) (a b v:Nat):learn A 6 a b v=setT A a { tkAt A a with st:=1,job:=v,late:=max ((tkAt A a).late-1) 0 }:=rfl
theorem auJobs6 (pb:Nat) (A:Au) (a b v:Nat) (had:Bool) (cy co:Int) (w0 w:World) (F:HP) (hs:Sat w0 w (auP pb A*F)) (hA:AOk A) (ha:a<64) (hv:v<4294967296) :
    Calls Tryz.prog 127 #[.pointer (some ⟨pb, 0, none⟩), evA 6 a b v cy co] w (Aft w0 pb A 6 a b v had F) := by
  have hs := auP_out hs;have hlt := hA.lt;have hm := tkg_mem (l := A.ts) (k := a) (by omega);have hj := hA.job _ hm;have hl := hA.late _ hm;have Hr := hid (rule6 A a b v had);have Hl := hid (learn6 A a b v);have Hlt := hid hlt;have i1:(a:Int)<64 := by omega
  have i2:decide (a<64)=true := by simp; omega
  haveI:Lt a A.ts.length := ⟨by omega⟩;clear hlt hm
  by_cases h1:(tkAt A a).st=0
  all_goals
    have h2:(tkg A.ts a).st=(tkAt A a).st := rfl
    first | have e2:((tkg A.ts a).st==0)=true := by rw [h2]; simp [h1]
          | have e2:((tkg A.ts a).st==0)=false := by rw [h2]; simp [h1]
    first | rw [decide_eq_true h1, Bool.true_and] at Hr | rw [decide_eq_false h1, Bool.false_and] at Hr
    clear h1 h2;have q4:IntKind.i64.wrap ((tkg A.ts a).late-1)=(tkg A.ts a).late-1 := by rw [IntKind.wrap_i64]; omega
    by_cases hm:(tkg A.ts a).late≤0
    all_goals
      first
        | (have m1:(tkg A.ts a).late-1<0 := by omega
           have Hm:Hid (max ((tkg A.ts a).late-1) 0=0) := by unfold Hid; omega)
        | (have m1:¬ (tkg A.ts a).late-1<0 := by omega
           have m2:0≤(tkg A.ts a).late-1 := by omega
           have Hm:Hid (max ((tkg A.ts a).late-1) 0=(tkg A.ts a).late-1) := by unfold Hid; omega)
      clear hm
      go_enter Tryz.func127, Tryz.ntmps127
      go_wp2_with fail;go_quiet (fail); go_wp2_with fail;go_quiet (fail); go_wp2_with fail;refine wp_gen (w0 := w0) ?_;intro wx hsx;refine wp_region_till (fun w' => w'.cell? ⟨w.heap.size, 5, none⟩=some (.int .u32 v)∧w'.cell? ⟨pb, 11+a*5+1, none⟩=some (.int .i64 (tkg A.ts a).late)) 19 [(0, 0), (1, 0), (2, 0), (3, 0), (4, 1), (5, 0), (6, 0), (7, 0), (8, 1), (9, 0), (10, 0), (11, 0), (12, 0), (13, 2), (14, 0), (15, 0), (16, 2), (17, 0), (18, 0), (19, 2)] (by kernel_rfl) (by kernel_rfl) (fun _ _ _ _ h => h) ⟨own_cell, own_cell⟩ ?_
      iterate 13 (first | refine plan_pS ?_ | refine plan_rS ?_ | refine plan_pN ?_ | refine plan_rN ?_)
      refine plan_G rfl (by rfl) (fun K hK => ?_);go_wp2_with fail
      (first | refine ⟨fun _ => ⟨own_cell, own_cell⟩, ?_⟩ | refine ⟨fun h => absurd rfl h, ?_⟩ | skip)
      iterate 2 (first | refine plan_pS ?_ | refine plan_rS ?_ | refine plan_pN ?_ | refine plan_rN ?_)
      refine plan_G rfl (by rfl) (fun K hK => ?_);go_wp2_with fail
      (first | refine ⟨fun _ => ⟨own_cell, own_cell⟩, ?_⟩ | refine ⟨fun h => absurd rfl h, ?_⟩ | skip)
      iterate 2 (first | refine plan_pS ?_ | refine plan_rS ?_ | refine plan_pN ?_ | refine plan_rN ?_)
      refine plan_G rfl (by rfl) (fun K hK => ?_);go_wp2_with fail
      (first | refine ⟨fun _ => ⟨own_cell, own_cell⟩, ?_⟩ | refine ⟨fun h => absurd rfl h, ?_⟩ | skip)
      refine plan_done ?_;go_wp2_with fail;go_ret;refine aft_both ?_ (auP_of ?_)
      · first | (rw [Hr.out]; done) | (rw [Hr.out]; exact nbq _ _)
      · rw [Hl.out]
        dsimp only [setT, tkAt];rw [Hm.out];exact own_left
theorem rule7 (A:Au) (a b v:Nat) (had:Bool):rule A 7 a b v had=(decide ((tkAt A a).st≠0∧(tkAt A a).st≠3) && decide ((v:Int)=min ((tkAt A a).late+1) 255)):=rfl
theorem learn7 (A:Au) (a b v:Nat):learn A 7 a b v=setT A a { tkAt A a with late:=v }:=rfl
theorem beqD (x y:Int):(x==y)=decide (x=y):=by rw [Bool.eq_iff_iff];simp
theorem auJobs7 (pb:Nat) (A:Au) (a b v:Nat) (had:Bool) (cy co:Int) (w0 w:World) (F:HP) (hs:Sat w0 w (auP pb A*F)) (hA:AOk A) (ha:a<64) (hv:v<4294967296) :
    Calls Tryz.prog 127 #[.pointer (some ⟨pb, 0, none⟩), evA 7 a b v cy co] w (Aft w0 pb A 7 a b v had F) := by
  have hs := auP_out hs;have hlt := hA.lt;have hm := tkg_mem (l := A.ts) (k := a) (by omega);have hl := hA.late _ hm;have Hr := hid (rule7 A a b v had);have Hl := hid (learn7 A a b v);have Hlt := hid hlt;have i1:(a:Int)<64 := by omega
  have i2:decide (a<64)=true := by simp; omega
  haveI:Lt a A.ts.length := ⟨by omega⟩;clear hlt hm;have h2:(tkg A.ts a).st=(tkAt A a).st := rfl
  by_cases h1:(tkAt A a).st=0
  · have e2:((tkg A.ts a).st != 0)=false := by rw [h2]; simp [h1]
    rw [decide_eq_false (fun h => h.1 h1), Bool.false_and] at Hr;clear h1 h2
    go_enter Tryz.func127, Tryz.ntmps127
    go_wp2_with fail;go_quiet (fail); go_wp2_with fail;go_quiet (fail); go_wp2_with fail;go_ret;refine aft_both ?_ (auP_of ?_)
    · rw [Hr.out]; done
    · rw [Hl.out]
      dsimp only [setT, tkAt];exact own_left
  · have e2:((tkg A.ts a).st != 0)=true := by rw [h2]; simp [h1]
    by_cases h3:(tkAt A a).st=3
    · have e3:((tkg A.ts a).st != 3)=false := by rw [h2]; simp [h3]
      rw [decide_eq_false (fun h => h.2 h3), Bool.false_and] at Hr;clear h1 h2 h3
      go_enter Tryz.func127, Tryz.ntmps127
      go_wp2_with fail;go_quiet (fail); go_wp2_with fail;go_quiet (fail); go_wp2_with fail;go_ret;refine aft_both ?_ (auP_of ?_)
      · rw [Hr.out]; done
      · rw [Hl.out]
        dsimp only [setT, tkAt];exact own_left
    · have e3:((tkg A.ts a).st != 3)=true := by rw [h2]; simp [h3]
      rw [decide_eq_true ⟨h1, h3⟩, Bool.true_and] at Hr;clear h1 h2 h3
      by_cases hm:(tkg A.ts a).late+1≤255
      all_goals
        first
          | (have m1:¬ (255<(tkg A.ts a).late+1) := by omega
             have Hm:Hid (min ((tkAt A a).late+1) 255=(tkg A.ts a).late+1) := by unfold Hid tkAt; omega)
          | (have m1:255<(tkg A.ts a).late+1 := by omega
             have Hm:Hid (min ((tkAt A a).late+1) 255=255) := by unfold Hid tkAt; omega)
        clear hm
        go_enter Tryz.func127, Tryz.ntmps127
        go_wp2_with fail;go_quiet (fail); go_wp2_with fail;go_quiet (fail); go_wp2_with fail;go_ret;refine aft_both ?_ (auP_of ?_)
        · rw [Hr.out, Hm.out]; exact beqD _ _
        · rw [Hl.out]
          dsimp only [setT, tkAt];exact own_left
end Go.Proofs.YtkeommmigopnkaaGreatDoor
