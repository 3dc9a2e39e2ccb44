/-
  Parts of the proof: RefI RefJ Fine RefK RefL.
-/
import Derived.Test.YtkeommmigopnkaaGreatDoorKF2
import Derived.Test.YtkeommmigopnkaaGreatDoorKF3
import Derived.Test.YtkeommmigopnkaaGreatDoorKF6
set_option linter.unusedVariables false
set_option linter.unusedSimpArgs false
set_option maxHeartbeats 32000000
set_option maxRecDepth 100000
namespace Go.Proofs.YtkeommmigopnkaaGreatDoor
open Go.RowKit Go.Sx
def hasS (u:Nat):ByteArray:=⟨(((if u.testBit 0 then [65] else []:List UInt8)++((if u.testBit 1 then [66] else [])++((if u.testBit 2 then [67] else [])++((if u.testBit 3 then [68] else [])++(if u.testBit 4 then [75] else [])))))).toArray⟩
theorem refHas (op:Int) (w:World):Calls Tryz.prog 131 #[.int .i64 op] w fun e w'=>e=.returned (.string (hasS (usesOf op)))∧w=w':=by
 by_cases h:1≤op∧op≤38
 ·rcases op_cases h with rfl | rfl | rfl | rfl | rfl | rfl | rfl | rfl | rfl | rfl | rfl | rfl | rfl | rfl | rfl | rfl | rfl | rfl | rfl | rfl | rfl | rfl | rfl | rfl | rfl | rfl | rfl | rfl | rfl | rfl | rfl | rfl | rfl | rfl | rfl | rfl | rfl | rfl
  all_goals
   clear h
   go_enter Tryz.func131,Tryz.ntmps131
   go_wp2;go_ret;exact ⟨rfl,rfl⟩
 ·have hu:usesOf op=0:=by unfold usesOf;repeat rw [if_neg (by omega)]
  rw [hu];clear hu
  go_enter Tryz.func131,Tryz.ntmps131
  go_wp2
  all_goals
   go_ret;exact ⟨rfl,rfl⟩
def inS (s:ByteArray) (c:Int):Bool:=s.data.toList.any fun b=>decide ((b.toNat:Int)=c)
theorem inS_at {s:ByteArray} {c:Int} {k:Nat} (hk:k<s.size) (h:((s[k]'hk).toNat:Int)=c):inS s c=true:=by
 unfold inS;rw [List.any_eq_true];exact ⟨s[k],by rw [ByteArray.getElem_eq_getElem_data];exact Array.getElem_mem_toList ..,by simpa using h⟩
theorem inS_none {s:ByteArray} {c:Int} (h:∀ k (hk:k<s.size),((s[k]'hk).toNat:Int)≠c):inS s c=false:=by
 unfold inS;rw [List.any_eq_false];intro b hb;obtain ⟨k,hk,rfl⟩:=List.getElem_of_mem hb;have e:=h k (show k<s.data.size by rw [← Array.length_toList];exact hk);rw [ByteArray.getElem_eq_getElem_data] at e;rw [Array.getElem_toList];exact fun h2=>e (of_decide_eq_true h2)
theorem refIn (s:ByteArray) (hs:s.size≤100) (c:Int) (w:World):Calls Tryz.prog 132 #[.string s,.int .u8 c] w fun e w'=>e=.returned (.bool (inS s c))∧w=w':=by
 go_enter Tryz.func132,Tryz.ntmps132
 go_wp2_with fail
 go_loopw [5] (fun i wr=>∃ k:Nat,k≤s.size∧i=.int .i64 k∧wr=w∧∀ j (hj:j<s.size),j<k→((s[j]'hj).toNat:Int)≠c) (fun i _=>s.size-(intOf i).toNat)
 case atStart=>exact ⟨0,Nat.zero_le _,rfl,by first | rfl | trivial,fun _ _ h=>absurd h (by omega)⟩
 case round =>
  obtain ⟨k,hk,rfl,rfl,hb⟩:=hrel;have Hb:=hid hb;clear hb
  by_cases hlt:k<s.size
  ·have d1:decide ((k:Int)<(s.size:Int))=true:=by simp;omega
   have i1:(k:Int)<s.size:=by omega
   by_cases e:((s[k]'hlt).toNat:Int)=c
   ·have hx:=hid (inS_at hlt e);go_wp2_with fail
    all_goals
     go_ret;exact ⟨by rw [hx.out];rfl,by first | rfl | trivial⟩
   ·have hb2:=hid (show ∀ j (hj:j<s.size),j<k+1→((s[j]'hj).toNat:Int)≠c from fun j hj h=>by
     rcases Nat.lt_or_ge j k with h1 | h1
     ·exact Hb.out j hj h1
     ·obtain rfl:j=k:=by omega
      exact e)
    go_wp2_with fail;go_roundw
    case rel=>exact ⟨k+1,by omega,by go_num,by first | rfl | trivial,hb2.out⟩
    case measure=>simp [intOf];omega
  ·have hx:=hid (inS_none fun j hj=>Hb.out j hj (by omega));have d1:decide ((k:Int)<(s.size:Int))=false:=by simp;omega
   have i1:¬ (k:Int)<s.size:=by omega
   go_wp2_with fail
   all_goals
    go_ret;exact ⟨by rw [hx.out];rfl,by first | rfl | trivial⟩
theorem hasS_small (u:Nat) (h:u=17∨u=3∨u=19∨u=16∨u=1∨u=31∨u=21∨u=29∨u=5∨u=7∨u=0):(hasS u).size≤100∧inS (hasS u) 65=u.testBit 0∧inS (hasS u) 66=u.testBit 1∧inS (hasS u) 67=u.testBit 2∧inS (hasS u) 68=u.testBit 3∧inS (hasS u) 75=u.testBit 4:=by
 rcases h with rfl | rfl | rfl | rfl | rfl | rfl | rfl | rfl | rfl | rfl | rfl<;>decide
def rgOk (a b c d:Int):Prop:=(0≤a∧a≤7)∧(0≤b∧b≤7)∧(0≤c∧c≤7)∧(0≤d∧d≤2)
theorem formOk_range {i:Ins} (h:formOk i=true):rgOk i.a i.b i.c i.d:=by
 unfold formOk regOk at h;simp only [Bool.and_eq_true,decide_eq_true_eq] at h;unfold rgOk;omega
theorem or_ch (p q:Prop) {r:Prop} (h:r):(p∧¬ q)∨((p→q)∧r):=by
 by_cases h1:p<;>by_cases h2:q
 ·exact .inr ⟨fun _=>h2,h⟩
 ·exact .inl ⟨h1,h2⟩
 ·exact .inr ⟨fun _=>h2,h⟩
 ·exact .inr ⟨fun x=>absurd x h1,h⟩
theorem lt_no {x y:Int} (h:¬ x<y):decide (x<y)=false:=by simp;omega
theorem refForm_out (op a b c d k:Int) (hop:isOp op=true) (h:¬ rgOk a b c d) (w0 w:World) (P:HP) (hs:Sat w0 w P) :
  Calls Tryz.prog 96 #[insV ⟨op,a,b,c,d,k⟩] w (RetV w0 (.int .i64 5) P):=by
 have hH:=hid (fun w=>refHas op w);have hop2:=of_decide_eq_true hop;have o1:=@lt_no op 1 (by omega);have o2:=@lt_no 38 op (by omega);generalize hasS (usesOf op)=S at hH;clear hop hop2
 go_enter Tryz.func96,Tryz.ntmps96
 go_wp2_with fail;refine (hH.out _).mono ?_;rintro en w1 ⟨rfl,rfl⟩;go_wp2_with fail
 all_goals first | (go_ret;exact ⟨rfl,own_left⟩) | (exfalso;unfold rgOk at h;simp at *;omega)
theorem refForm_in (op a b c d k:Int) (hop:isOp op=true) (h:rgOk a b c d) (z:Int) (hz:formE ⟨op, a, b, c, d, k⟩=z) (w0 w:World) (P:HP) (hs:Sat w0 w P) :
    Calls Tryz.prog 96 #[insV ⟨op, a, b, c, d, k⟩] w (RetV w0 (.int .i64 z) P) := by
  have hH := hid (fun w => refHas op w);have hu := uses_cases op;obtain ⟨s0, sA, sB, sC, sD, sK⟩ := hasS_small _ hu;have hI := hid (fun c w => refIn (hasS (usesOf op)) s0 c w);have hop2 := of_decide_eq_true hop;have o1 := @lt_no op 1 (by omega);have o2 := @lt_no 38 op (by omega);obtain ⟨⟨a1, a2⟩, ⟨b1, b2⟩, ⟨c1, c2⟩, ⟨d1, d2⟩⟩ := h;have g1 := @lt_no a 0 (by omega);have g2 := @lt_no 7 a (by omega);have g3 := @lt_no b 0 (by omega);have g4 := @lt_no 7 b (by omega);have g5 := @lt_no c 0 (by omega);have g6 := @lt_no 7 c (by omega);have g7 := @lt_no d 0 (by omega);have g8 := @lt_no 2 d (by omega);have Hr := hid (show (0≤a∧a≤7)∧(0≤b∧b≤7)∧(0≤c∧c≤7)∧(0≤d∧d≤2) from ⟨⟨a1, a2⟩, ⟨b1, b2⟩, ⟨c1, c2⟩, ⟨d1, d2⟩⟩);unfold formE formOk regOk at hz;simp only [hop, not_true_eq_false, if_false] at hz;generalize hasS (usesOf op)=S at hH hI sA sB sC sD sK;generalize usesOf op=u at hu hz sA sB sC sD sK;have hA := hid (fun w => hI.out 65 w);have hB := hid (fun w => hI.out 66 w);have hC := hid (fun w => hI.out 67 w);have hD := hid (fun w => hI.out 68 w);have hK := hid (fun w => hI.out 75 w);rw [sA] at hA;rw [sB] at hB;rw [sC] at hC;rw [sD] at hD;rw [sK] at hK;have H0 := hid (or_ch (u.testBit 0=false) (a=0) trivial);have H1 := hid (or_ch (u.testBit 1=false) (b=0) trivial);have H2 := hid (or_ch (u.testBit 2=false) (c=0) trivial);have H3 := hid (or_ch (u.testBit 3=false) (d=0) trivial);have H4 := hid (or_ch (u.testBit 4=false) (k=0) trivial);have Hz := hid hz;clear hI sA sB sC sD sK s0 hop hop2 a1 a2 b1 b2 c1 c2 d1 d2 hz
  rcases hu with rfl | rfl | rfl | rfl | rfl | rfl | rfl | rfl | rfl | rfl | rfl
  all_goals
    go_enter Tryz.func96, Tryz.ntmps96
    go_wp2_with fail;refine (hH.out _).mono ?_;rintro en w1 ⟨rfl, rfl⟩;go_wp2_with fail;refine (hA.out _).mono ?_;rintro en w1 ⟨rfl, rfl⟩
    rcases H0.out with ⟨e, x⟩ | ⟨x1, -⟩
    · first
        | exact absurd e (by decide)
        | (have x0 := (bne_iff_ne ..).2 x
           clear x e;go_wp2_with fail;go_ret; refine ⟨?_, own_left⟩; rw [← Hz.out]; (try congr 2); have hr := Hr.out; first | rfl | (simp_all; done) | (simp_all; omega) | (simp; omega))
    (try (obtain rfl := x1 rfl)); (try clear x1)
    go_wp2_with fail;refine (hB.out _).mono ?_;rintro en w1 ⟨rfl, rfl⟩
    rcases H1.out with ⟨e, x⟩ | ⟨x1, -⟩
    · first
        | exact absurd e (by decide)
        | (have x0 := (bne_iff_ne ..).2 x
           clear x e;go_wp2_with fail;go_ret; refine ⟨?_, own_left⟩; rw [← Hz.out]; (try congr 2); have hr := Hr.out; first | rfl | (simp_all; done) | (simp_all; omega) | (simp; omega))
    (try (obtain rfl := x1 rfl)); (try clear x1)
    go_wp2_with fail;refine (hC.out _).mono ?_;rintro en w1 ⟨rfl, rfl⟩
    rcases H2.out with ⟨e, x⟩ | ⟨x1, -⟩
    · first
        | exact absurd e (by decide)
        | (have x0 := (bne_iff_ne ..).2 x
           clear x e;go_wp2_with fail;go_ret; refine ⟨?_, own_left⟩; rw [← Hz.out]; (try congr 2); have hr := Hr.out; first | rfl | (simp_all; done) | (simp_all; omega) | (simp; omega))
    (try (obtain rfl := x1 rfl)); (try clear x1)
    go_wp2_with fail;refine (hD.out _).mono ?_;rintro en w1 ⟨rfl, rfl⟩
    rcases H3.out with ⟨e, x⟩ | ⟨x1, -⟩
    · first
        | exact absurd e (by decide)
        | (have x0 := (bne_iff_ne ..).2 x
           clear x e;go_wp2_with fail;go_ret; refine ⟨?_, own_left⟩; rw [← Hz.out]; (try congr 2); have hr := Hr.out; first | rfl | (simp_all; done) | (simp_all; omega) | (simp; omega))
    (try (obtain rfl := x1 rfl)); (try clear x1)
    go_wp2_with fail;refine (hK.out _).mono ?_;rintro en w1 ⟨rfl, rfl⟩
    rcases H4.out with ⟨e, x⟩ | ⟨x1, -⟩
    · first
        | exact absurd e (by decide)
        | (have x0 := (bne_iff_ne ..).2 x
           clear x e;go_wp2_with fail;go_ret; refine ⟨?_, own_left⟩; rw [← Hz.out]; (try congr 2); have hr := Hr.out; first | rfl | (simp_all; done) | (simp_all; omega) | (simp; omega))
    (try (obtain rfl := x1 rfl)); (try clear x1)
    go_wp2_with fail;refine (hD.out _).mono ?_;rintro en w1 ⟨rfl, rfl⟩;go_wp2_with fail
    all_goals (go_ret; refine ⟨?_, own_left⟩; rw [← Hz.out]; (try congr 2); have hr := Hr.out; first | rfl | (simp_all; done) | (simp_all; omega) | (simp; omega))
theorem refForm (i:Ins) (z:Int) (hz:formE i=z) (w0 w:World) (P:HP) (hs:Sat w0 w P):Calls Tryz.prog 96 #[insV i] w (RetV w0 (.int .i64 z) P):=by
 obtain ⟨op,a,b,c,d,k⟩:=i
 cases hop:isOp op with
 | true =>
  by_cases h:rgOk a b c d
  ·exact refForm_in op a b c d k hop h z hz w0 w P hs
  ·have e:z=5:=by
    rw [← hz];unfold formE;rw [if_neg (by simp [hop]),if_neg fun hf=>h (formOk_range hf)]
   rw [e];exact refForm_out op a b c d k hop h w0 w P hs
 | false =>
  have Hz:=hid hz;have H:=hid hop;unfold isOp at hop;have ho:=of_decide_eq_false hop;clear hz hop
  go_enter Tryz.func96,Tryz.ntmps96
  go_wp2_with fail
  all_goals first | (go_ret;refine ⟨?_,own_left⟩;rw [← Hz.out];unfold formE;simp [H.out];done) | (exfalso;simp at *;omega)
end Go.Proofs.YtkeommmigopnkaaGreatDoor
namespace Go.Proofs.YtkeommmigopnkaaGreatDoor
open Go.RowKit Go.Sx Go.Dl Go.Lk Go.Rq Go.Au
def CodeFine (l:List Ins) (isr:Bool):Prop:=l.length≤256∧∀ k,k<l.length→checkE (insAt l k) l.length isr=0
def TaskFine (t:Tc):Prop:=inR t.lev 0 31=true∧inR t.off 1 1073741824=true∧inR t.per 0 1073741824=true∧inR t.dl 0 1073741824=true∧inR t.mem 0 256=true∧CodeFine t.code false
def LineFine (l:Lc):Prop:=inR l.mem 0 256=true∧CodeFine l.code true
def RowFine (l:List Int) (lo hi:Int):Prop:=l.length≤32∧∀ k,k<l.length→inR (lg l k) lo hi=true
structure Fine (c:Cf):Prop where
 tn:c.ts.length≤64
 tk:∀ t,t<c.ts.length→TaskFine (tcg c t)
 ln:c.ls.length≤16
 lk:∀ n,n<c.ls.length→LineFine (lcg c n)
 mu:inR c.mutexes 0 32=true
 se:RowFine c.sems 0 255
 qu:RowFine c.queues 1 64
 tm:RowFine c.timers 0 (c.sems.length-1)
 tb:inR c.table 0 64=true
 ms:maskOk c=true
 ch:inR c.charge 0 64=true
theorem codeF_fineI (l:List Ins) (isr:Bool) (p i a:Int):(codeF l isr p i a).err=0↔CodeFine l isr:=by
 constructor
 ·intro h;obtain ⟨h1,h2⟩:=codeF_ok h;refine ⟨h1,fun k hk=>h2 _ ?_⟩;unfold insAt;simp [List.getD,hk]
 ·rintro ⟨h1,h2⟩;unfold codeF;rw [if_neg (by omega),firstOf_all (fun k hk=>by unfold codeBad;simp [h2 k hk])]
theorem taskF_fine (t:Tc) (i:Int):(taskF t i).err=0↔TaskFine t:=by
 unfold taskF TaskFine;rw [← codeF_fineI t.code false 1 i 6]
 constructor
 ·intro h
  split at h
  ·exact absurd h (by simp)
  split at h
  ·exact absurd h (by simp)
  split at h
  ·exact absurd h (by simp)
  split at h
  ·exact absurd h (by simp)
  split at h
  ·exact absurd h (by simp)
  rename_i h1 h2 h3 h4 h5
  exact ⟨Classical.not_not.1 h1,Classical.not_not.1 h2,Classical.not_not.1 h3,Classical.not_not.1 h4,Classical.not_not.1 h5,h⟩
 ·rintro ⟨h1,h2,h3,h4,h5,h6⟩;rw [if_neg (not_not_intro h1),if_neg (not_not_intro h2),if_neg (not_not_intro h3),if_neg (not_not_intro h4),if_neg (not_not_intro h5)];exact h6
theorem lineF_fine (l:Lc) (i:Int):(lineF l i).err=0↔LineFine l:=by
 unfold lineF LineFine;rw [← codeF_fineI l.code true 2 i 2]
 constructor
 ·intro h
  split at h
  ·exact absurd h (by simp)
  rename_i h1
  exact ⟨Classical.not_not.1 h1,h⟩
 ·rintro ⟨h1,h2⟩;rw [if_neg (not_not_intro h1)];exact h2
theorem rowF_fineI (l:List Int) (p lo hi:Int):(rowF l p lo hi).err=0↔RowFine l lo hi:=by
 constructor
 ·intro h;obtain ⟨h1,h2⟩:=rowF_ok h;refine ⟨h1,fun k hk=>?_⟩;have:=h2 (lg l k) (by unfold lg;simp [List.getD,hk]);exact decide_eq_true this
 ·rintro ⟨h1,h2⟩;unfold rowF;rw [if_neg (by omega),firstOf_all (fun k hk=>by unfold rowBad;simp [h2 k hk])]
theorem numF_fine (z:Bool) (p:Int):(numF z p).err=0↔z=true:=by
 constructor
 ·exact numF_ok
 ·rintro rfl;rfl
theorem thenF_fine (a b:Ft):(thenF a b).err=0↔a.err=0∧b.err=0:=by
 constructor
 ·exact thenF_err
 ·rintro ⟨h1,h2⟩;unfold thenF;rw [if_pos h1];exact h2
theorem programsF_fine (c:Cf):(programsF c).err=0↔c.ts.length≤64∧(∀ t,t<c.ts.length→TaskFine (tcg c t))∧c.ls.length≤16∧∀ n,n<c.ls.length→LineFine (lcg c n):=by
 constructor
 ·intro h;obtain ⟨h1,h2,h0⟩:=programsF_ok h;refine ⟨h1,fun t ht=>(taskF_fine _ _).1 (h2 t ht),(linesF_ok h0).1,fun n hn=>?_⟩;unfold linesF at h0;have l1:=(linesF_ok (c:=c) (by unfold linesF;exact h0)).1;rw [if_neg (by omega)] at h0
  cases f:firstOf (lineBad c) c.ls.length with
  | some k =>
   rw [f] at h0;have:=find_range_some (f:(List.range c.ls.length).find? (lineBad c)=some k);exact absurd h0 (of_decide_eq_true this.2.1)
  | none=>exact (lineF_fine _ _).1 (Classical.not_not.1 (of_decide_eq_false (firstOf_none f n hn)))
 ·rintro ⟨h1,h2,h3,h4⟩;unfold programsF;rw [if_neg (by omega),firstOf_all (fun t ht=>by unfold taskBad;simp [(taskF_fine (tcg c t) t).2 (h2 t ht)])];show (linesF c).err=0;unfold linesF;rw [if_neg (by omega),firstOf_all (fun t ht=>by unfold lineBad;simp [(lineF_fine (lcg c t) t).2 (h4 t ht)])]
theorem fine_iff (c:Cf):(confF c).err=0↔Fine c:=by
 unfold confF;simp only [thenF_fine,programsF_fine,numF_fine,rowF_fineI]
 constructor
 ·rintro ⟨⟨⟨⟨⟨⟨⟨⟨h1,h2,h3,h4⟩,h5⟩,h6⟩,h7⟩,h8⟩,h9⟩,h10⟩,h11⟩;exact ⟨h1,h2,h3,h4,h5,h6,h7,h8,h9,h10,h11⟩
 ·rintro ⟨h1,h2,h3,h4,h5,h6,h7,h8,h9,h10,h11⟩;exact ⟨⟨⟨⟨⟨⟨⟨⟨h1,h2,h3,h4⟩,h5⟩,h6⟩,h7⟩,h8⟩,h9⟩,h10⟩,h11⟩
theorem refCheckI (i:Ins) (n:Nat) (hn:n≤256) (isr:Bool) (z:Int) (hz:checkE i n isr=z) (hk:rngW i.k) (w0 w:World) (P:HP) (hs:Sat w0 w P) :
  Calls Tryz.prog 61 #[insV i,.int .i64 n,.bool isr] w (RetV w0 (.int .i64 z) P):=by
 have hF:=hid (fun (e:Int) (he:formE i=e) (wx:World) (Q:HP) (h:Sat w0 wx Q)=>refForm i e he w0 wx Q h);obtain ⟨op,a,b,c,d,k⟩:=i;have hk0:0≤k:=hk.1;have hk1:k<4294967296:=hk.2;have u1:IntKind.u64.wrap k=k:=by rw [IntKind.wrap_u64];omega
 have u2:IntKind.u64.wrap (n:Int)=n:=by rw [IntKind.wrap_u64];omega
 unfold checkE at hz
 by_cases h1:formE ⟨op,a,b,c,d,k⟩=0
 ·rw [if_neg (Classical.not_not.2 h1)] at hz;have H1:=hid h1;have hop:1≤op∧op≤38:=Classical.byContradiction fun h=>by
   unfold formE at h1;rw [if_pos (by unfold isOp;simp;omega)] at h1;exact absurd h1 (by decide)
  have hop1:=hop.1;have hop2:=hop.2;clear hop;unfold may at hz;have Hz:=hid hz;clear h1 hz hk
  cases isr
  all_goals
   go_enter Tryz.func61,Tryz.ntmps61
   go_wp2_with fail;refine (hF.out 0 H1.out _ _ own_it).mono ?_;rintro en w1 ⟨rfl,hs1⟩;clear hs;go_wp2
   all_goals
    go_ret;refine ⟨?_,own_left⟩;rw [← Hz.out]
    first | (simp_all;done) | (simp_all;omega) | (congr 2; (repeat' split)<;>simp_all<;>omega)
 ·rw [if_pos h1] at hz;have e1:(z != 0)=true:=by rw [← hz];simpa using h1
  have Hz:=hid hz;clear h1 hz
  go_enter Tryz.func61,Tryz.ntmps61
  go_wp2_with fail;refine (hF.out z Hz.out _ _ own_it).mono ?_;rintro en w1 ⟨rfl,hs1⟩;clear hs;go_wp2_with fail;go_ret;exact ⟨rfl,own_left⟩
theorem refOut (n lo hi:Int) (z:Bool) (hz:inR n lo hi=z) (w:World):Calls Tryz.prog 37 #[.int .i64 n,.int .i64 lo,.int .i64 hi] w fun e w'=>e=.returned (.bool (!z))∧w=w':=by
 unfold inR at hz;have Hz:=hid hz;clear hz
 go_enter Tryz.func37,Tryz.ntmps37
 go_wp2
 all_goals
  go_ret;exact ⟨retB (by rw [← Hz.out,Bool.eq_iff_iff];simp;try omega),rfl⟩
theorem refFault (e p i a:Int) (w0 w:World) (P:HP) (hs:Sat w0 w P):Calls Tryz.prog 36 #[.int .i64 e,.int .i64 p,.int .i64 i,.int .i64 a] w (RetV w0 (ftV ⟨e,p,i,a⟩) P):=by
 go_enter Tryz.func36,Tryz.ntmps36
 go_wp2_with fail;go_returns;exact ⟨rfl,own_left⟩
def RetC (w0:World) (P:HP) (Q:Prop) (e:Ending) (w':World):Prop:=∃ z k:Int,e=.returned (.tuple #[.int .i64 z,.int .i64 k])∧Sat w0 w' P∧(z=0↔Q)
def RetF (w0:World) (P:HP) (Q:Prop) (e:Ending) (w':World):Prop:=∃ f:Ft,e=.returned (ftV f)∧Sat w0 w' P∧(f.err=0↔Q)
theorem RetF.no {w0 w':World} {P:HP} {Q:Prop} (f:Ft) (hs:Sat w0 w' P) (h:¬ f.err=0) (hq:¬ Q):RetF w0 P Q (.returned (ftV f)) w':=⟨f,rfl,hs,fun e=>absurd e h,fun e=>absurd e hq⟩
theorem refCode (v:Value) (l:List Ins) (isr:Bool) (hk:∀ i∈l,rngW i.k) (w0:World) (hr:RdR w0 v l) :
  Calls Tryz.prog 38 #[v,.bool isr] w0 (RetC w0 emp (CodeFine l isr)):=by
 have hs:=Sat.start w0;obtain ⟨a,cap,g,off,rfl,_,hcm,ha,hc⟩:=hr
 by_cases hl:256<l.length
 ·have d1:decide (256<l.length)=true:=decide_eq_true hl;have d2:decide ((256:Int)<(l.length:Int))=true:=by simp;omega
  have hx:=hid (show ¬ CodeFine l isr from fun h=>by have:=h.1;omega);clear ha hc
  go_enter Tryz.func38,Tryz.ntmps38
  go_wp2_with fail;go_ret2;exact ⟨4,0,rfl,own_left,fun h=>absurd h (by decide),fun h=>absurd h hx.out⟩
 ·have d1:decide (256<l.length)=false:=decide_eq_false hl;have d2:decide ((256:Int)<(l.length:Int))=false:=by simp;omega
  have Ha:=hid ha;have Hc:=hid hc;have Hk:=hid hk;clear ha hc hk
  go_enter Tryz.func38,Tryz.ntmps38
  go_wp2_with fail;refine wp_gen (w0:=w0) ?_;intro ww hsw;clear hs
  go_loopw [6] (fun i wr=>∃ k:Nat,k≤l.length∧i=.int .i64 k∧(∀ j,j<k→checkE (insAt l j) l.length isr=0)∧Sat w0 wr any) (fun i _=>l.length-(intOf i).toNat)
  case atStart=>exact ⟨0,Nat.zero_le _,rfl,fun j hj=>absurd hj (by omega),own_left⟩
  case round =>
   obtain ⟨k,hk,rfl,hb,hsr⟩:=hrel;clear hsw;have Hb:=hid hb;clear hb
   by_cases hlt:k<l.length
   ·have d3:decide (k<l.length)=true:=decide_eq_true hlt;have i3:(k:Int)<(l.length:Int):=by omega
    obtain rfl:=Ha.out (by intro h;simp [h] at hlt);obtain ⟨i,hi⟩:∃ i,i=insAt l k:=⟨_,rfl⟩;have hgd:l.getD k ins0=i:=by rw [hi];rfl
    have hik:rngW i.k:=Hk.out i (by rw [hi];exact insAt_mem (by omega) (by omega));have oc:∀ c u,c<6→(encIns.enc i)[c]?=some u→w0.cell? ⟨g,off+k*6+c,none⟩=some u:=fun c u hc6 he=>oldArr_at Hc.out hlt hc6 (by show (encIns.enc (l.getD k ins0))[c]?=some u;rw [hgd];exact he);haveI o0:Old w0 g (off+k*6) (.int .i64 i.op):=⟨oc 0 _ (by decide) rfl⟩;haveI o1:Old w0 g (off+k*6+1) (.int .i64 i.a):=⟨oc 1 _ (by decide) rfl⟩;haveI o2:Old w0 g (off+k*6+2) (.int .i64 i.b):=⟨oc 2 _ (by decide) rfl⟩;haveI o3:Old w0 g (off+k*6+3) (.int .i64 i.c):=⟨oc 3 _ (by decide) rfl⟩;haveI o4:Old w0 g (off+k*6+4) (.int .i64 i.d):=⟨oc 4 _ (by decide) rfl⟩;haveI o5:Old w0 g (off+k*6+5) (.int .u32 i.k):=⟨oc 5 _ (by decide) rfl⟩;obtain ⟨z,hz⟩:∃ z,z=checkE i l.length isr:=⟨_,rfl⟩;have hI:=hid (fun (w:World) (P:HP) (hs:Sat w0 w P)=>refCheckI i l.length (by omega) isr z hz.symm hik w0 w P hs);rw [hi] at hz;have Hz:=hid hz;clear oc hgd hi hik hz
    by_cases hz0:z=0
    ·subst hz0;have hb2:=hid (show ∀ j,j<k+1→checkE (insAt l j) l.length isr=0 from fun j hj=>by
      rcases Nat.lt_or_ge j k with h | h
      ·exact Hb.out j h
      ·obtain rfl:j=k:=by omega
       exact Hz.out.symm)
     go_wp2_with fail;refine (hI.out _ any own_left).mono ?_;rintro en w1 ⟨rfl,hs1⟩;go_wp2_with fail;go_roundw
     case rel=>exact ⟨k+1,by omega,by go_num,hb2.out,own_left⟩
     case measure=>simp [intOf];omega
    ·have z1:(z != 0)=true:=by simp [hz0]
     have hx:=hid (show ¬ CodeFine l isr from fun h=>hz0 (Hz.out.trans (h.2 k hlt)));have Hz0:=hid hz0;clear hz0;go_wp2_with fail;refine (hI.out _ any own_left).mono ?_;rintro en w1 ⟨rfl,hs1⟩;go_wp2_with fail;go_ret2;exact ⟨_,_,rfl,own_left,fun h=>absurd h Hz0.out,fun h=>absurd h hx.out⟩
   ·have hkl:k=l.length:=by omega
    subst hkl;have d3:decide (l.length<l.length)=false:=by simp
    have hx:=hid (show CodeFine l isr from ⟨by omega,Hb.out⟩);clear hlt;go_wp2_with fail
    all_goals
     go_ret2;exact ⟨0,0,rfl,own_left,fun _=>hx.out,fun _=>rfl⟩
theorem refRow (v:Value) (l:List Int) (p lo hi:Int) (w0:World) (hr:RdN .i64 w0 v l) :
  Calls Tryz.prog 39 #[v,.int .i64 p,.int .i64 lo,.int .i64 hi] w0 (RetF w0 emp (RowFine l lo hi)):=by
 have hs:=Sat.start w0;obtain ⟨a,cap,gb,off,rfl,_,_,ha,hc⟩:=hr
 by_cases hl:32<l.length
 ·have d1:decide (32<l.length)=true:=decide_eq_true hl;have d2:decide ((32:Int)<(l.length:Int))=true:=by simp;omega
  have hx:=hid (show ¬ RowFine l lo hi from fun h=>by have:=h.1;omega);clear ha hc
  go_enter Tryz.func39,Tryz.ntmps39
  go_wp2_with fail;refine (refFault _ _ _ _ w0 _ _ own_it).mono ?_;rintro en w1 ⟨rfl,hs1⟩;unfold ftV;go_wp2_with fail;go_returns;exact RetF.no ⟨4,p,0,0⟩ own_left (show ¬ (4:Int)=0 by decide) hx.out
 ·have d1:decide (32<l.length)=false:=decide_eq_false hl;have d2:decide ((32:Int)<(l.length:Int))=false:=by simp;omega
  have hl9:l.length≤32:=by omega
  have Ha:=hid ha;have Hc:=hid hc;clear ha hc
  go_enter Tryz.func39,Tryz.ntmps39
  go_wp2_with fail;refine wp_gen (w0:=w0) ?_;intro ww hsw;clear hs hl
  go_loopw [9] (fun i wr=>∃ k:Nat,k≤l.length∧i=.int .i64 k∧(∀ j,j<k→inR (lg l j) lo hi=true)∧Sat w0 wr (pts w0.heap.size 0 [.int .i64 0,.int .i64 0,.int .i64 0,.int .i64 0]*any)) (fun i _=>l.length-(intOf i).toNat)
  case atStart=>exact ⟨0,Nat.zero_le _,rfl,fun j hj=>absurd hj (by omega),own_left⟩
  case round =>
   obtain ⟨k,hk,rfl,hb,hsr⟩:=hrel;clear hsw;have Hb:=hid hb;clear hb
   by_cases hlt:k<l.length
   ·have d3:decide (k<l.length)=true:=decide_eq_true hlt;have i3:(k:Int)<(l.length:Int):=by omega
    obtain rfl:=Ha.out (by intro h;simp [h] at hlt);haveI o1:Old w0 gb (off+k) (.int .i64 (lg l k)):=⟨Hc.out k hlt⟩
    cases g:inR (lg l k) lo hi
    ·have hx:=hid (show ¬ RowFine l lo hi from fun h=>by have:=h.2 k hlt;rw [g] at this;cases this);have hO:=hid (fun w=>refOut (lg l k) lo hi false g w);clear g;go_wp2_with fail;refine (hO.out _).mono ?_;rintro en w1 ⟨rfl,rfl⟩;go_wp2_with fail;refine (refFault _ _ _ _ w0 _ _ own_it).mono ?_;rintro en w1 ⟨rfl,hs1⟩;unfold ftV;go_wp2_with fail;go_returns;exact RetF.no ⟨5,p,k,1⟩ own_left (show ¬ (5:Int)=0 by decide) hx.out
    ·have hb2:=hid (show ∀ j,j<k+1→inR (lg l j) lo hi=true from fun j hj=>by
      rcases Nat.lt_or_ge j k with h | h
      ·exact Hb.out j h
      ·obtain rfl:j=k:=by omega
       exact g)
     have hO:=hid (fun w=>refOut (lg l k) lo hi true g w);clear g;go_wp2_with fail;refine (hO.out _).mono ?_;rintro en w1 ⟨rfl,rfl⟩;go_wp2_with fail;go_roundw
     case rel=>exact ⟨k+1,by omega,by go_num,hb2.out,own_left⟩
     case measure=>simp [intOf];omega
   ·have hkl:k=l.length:=by omega
    subst hkl;have d3:decide (l.length<l.length)=false:=by simp
    have hx:=hid (show RowFine l lo hi from ⟨hl9,Hb.out⟩);clear hlt;go_wp2_with fail
    all_goals
     go_returns;exact ⟨ft0,rfl,own_left,fun _=>hx.out,fun _=>rfl⟩
theorem refConf (v:Value) (c:Cf) (rg:CfRng c) (w0:World) (hr:RdCf w0 v c) :
  Calls Tryz.prog 21 #[v] w0 (RetF w0 emp (Fine c)):=by
 have hs:=Sat.start w0;obtain ⟨tv,lv,sv,qv,mv,rfl,⟨T,hT,hTn,hTi⟩,⟨L,hL,hLn,hLi⟩,hS,hQ,hM⟩:=hr.out;have hRs:=hid (fun (w:World) (h:Sat w0 w any)=>refRow sv c.sems 4 0 255 w (hS.later h));have hRq:=hid (fun (w:World) (h:Sat w0 w any)=>refRow qv c.queues 5 1 64 w (hQ.later h));have hRt:=hid (fun (w:World) (h:Sat w0 w any)=>refRow mv c.timers 6 0 (c.sems.length-1) w (hM.later h));clear hr;have hsl:=hS.len;obtain ⟨sa,scap,_,_,rfl,_⟩:=hS;obtain ⟨qa,qcap,_,_,rfl,_⟩:=hQ;obtain ⟨ma,mcap,_,_,rfl,_⟩:=hM;obtain ⟨ta,tcap,tg,tto,rfl,_,_,hta,htc⟩:=hT;obtain ⟨la,lcap,lg',lo,rfl,_,_,hla,hlc⟩:=hL;rw [hTn,hLn];have u1:IntKind.i64.wrap ((c.sems.length:Int)-1)=(c.sems.length:Int)-1:=by rw [IntKind.wrap_i64];unfold maxLen at hsl;omega
 have Hta:=hid hta;have Htc:=hid htc;have Hla:=hid hla;have Hlc:=hid hlc;have HTn:=hid hTn;have HLn:=hid hLn;have HTi:=hid hTi;have HLi:=hid hLi;have Rg:=hid rg;clear hta htc hla hlc hTn hLn hTi hLi rg hsl
 by_cases hl:64<c.ts.length
 ·have d1:decide (64<c.ts.length)=true:=decide_eq_true hl;have d2:decide ((64:Int)<(c.ts.length:Int))=true:=by simp;omega
  have hb:=hid (show ¬ Fine c from fun h=>by have:=h.tn;omega)
  go_enter Tryz.func21,Tryz.ntmps21
  go_wp2_with fail;refine (refFault _ _ _ _ w0 _ _ own_it).mono ?_;rintro en w1 ⟨rfl,hs1⟩;unfold ftV;go_wp2_with fail;go_returns;exact RetF.no ⟨_,_,_,_⟩ own_left (by simp) hb.out
 have d1:decide (64<c.ts.length)=false:=decide_eq_false hl;have d2:decide ((64:Int)<(c.ts.length:Int))=false:=by simp;omega
 have htl:c.ts.length≤64:=by omega
 clear hl
 go_enter Tryz.func21,Tryz.ntmps21
 go_wp2_with fail;refine wp_gen (w0:=w0) ?_;intro ww hsw;clear hs
 go_loopw [3] (fun i wr=>∃ k:Nat,k≤c.ts.length∧i=.int .i64 k∧(∀ j,j<k→TaskFine (tcg c j))∧Sat w0 wr (pts w0.heap.size 0 [.slice ta c.ts.length tcap,.slice la c.ls.length lcap,.int .i64 c.mutexes,.slice sa c.sems.length scap,.slice qa c.queues.length qcap,.slice ma c.timers.length mcap,.int .i64 c.table,.int .u32 c.mask,.int .u32 c.filter,.int .i64 c.charge,.int .u64 c.cycle,.int .u64 c.count]*(pts (w0.heap.size+1) 0 [.int .i64 0,.int .i64 0,.int .i64 0,.int .i64 0]*any))) (fun i _=>c.ts.length-(intOf i).toNat)
 case atStart=>exact ⟨0,Nat.zero_le _,rfl,fun j hj=>absurd hj (by omega),own_left⟩
 case round =>
  obtain ⟨k,hk,rfl,hb,hsr⟩:=hrel;clear hsw;have Hb:=hid hb;clear hb
  by_cases hlt:k<c.ts.length
  ·have d3:decide (k<c.ts.length)=true:=decide_eq_true hlt;have i3:(k:Int)<(c.ts.length:Int):=by omega
   have hTl:=HTn.out;obtain rfl:=Hta.out (by intro h;simp [h] at hTl;omega);have hit:=HTi.out k hlt;obtain ⟨u,hu⟩:∃ u,u=T.getD k tv0:=⟨_,rfl⟩;have oc:∀ c' y,c'<6→(encTv.enc u)[c']?=some y→w0.cell? ⟨tg,tto+k*6+c',none⟩=some y:=fun c' y hc6 he=>oldArr_at Htc.out (by omega) hc6 (by show (encTv.enc (T.getD k tv0))[c']?=some y;rw [← hu];exact he);rw [← hu] at hit;have hit:IsT w0 u (tcg c k):=hit;haveI o0:Old w0 tg (tto+k*6) (.int .i64 (tcg c k).lev):=⟨by rw [← hit.lev];exact oc 0 _ (by decide) rfl⟩;haveI o1:Old w0 tg (tto+k*6+1) (.int .i64 (tcg c k).off):=⟨by rw [← hit.off];exact oc 1 _ (by decide) rfl⟩;haveI o2:Old w0 tg (tto+k*6+2) (.int .i64 (tcg c k).per):=⟨by rw [← hit.per];exact oc 2 _ (by decide) rfl⟩;haveI o3:Old w0 tg (tto+k*6+3) (.int .i64 (tcg c k).dl):=⟨by rw [← hit.dl];exact oc 3 _ (by decide) rfl⟩;haveI o4:Old w0 tg (tto+k*6+4) (.int .i64 (tcg c k).mem):=⟨by rw [← hit.mem];exact oc 4 _ (by decide) rfl⟩;haveI o5:Old w0 tg (tto+k*6+5) (.slice u.ca u.cn u.cc):=⟨oc 5 _ (by decide) rfl⟩;have hC:=hid (fun (w:World) (h:Sat w0 w any)=>refCode u.cv (tcg c k).code false (Rg.out.tk k hlt) w (hit.code.later h));clear oc hu hTl hit;go_wp2_with fail;refine (refOut _ _ _ _ rfl _).mono ?_;rintro en w1 ⟨rfl,rfl⟩
   cases g:inR (tcg c k).lev 0 31
   rotate_left
   have G1:=hid g;clear g;go_wp2_with fail;refine (refOut _ _ _ _ rfl _).mono ?_;rintro en w1 ⟨rfl,rfl⟩
   cases g:inR (tcg c k).off 1 1073741824
   rotate_left
   have G2:=hid g;clear g;go_wp2_with fail;refine (refOut _ _ _ _ rfl _).mono ?_;rintro en w1 ⟨rfl,rfl⟩
   cases g:inR (tcg c k).per 0 1073741824
   rotate_left
   have G3:=hid g;clear g;go_wp2_with fail;refine (refOut _ _ _ _ rfl _).mono ?_;rintro en w1 ⟨rfl,rfl⟩
   cases g:inR (tcg c k).dl 0 1073741824
   rotate_left
   have G4:=hid g;clear g;go_wp2_with fail;refine (refOut _ _ _ _ rfl _).mono ?_;rintro en w1 ⟨rfl,rfl⟩
   cases g:inR (tcg c k).mem 0 256
   rotate_left
   have G5:=hid g;clear g;go_wp2_with fail;refine (hC.out _ own_left).mono ?_;rintro en w1 ⟨z,kk,rfl,hs1,hz⟩;have hs2:=Sat.past (w0:=w0) own_it hs1;clear hs1 hsr
   by_cases hz0:z=0
   case neg =>
    have z1:(z != 0)=true:=by simp [hz0]
    have hb:=hid (show ¬ Fine c from fun h=>hz0 (hz.2 (h.tk k hlt).2.2.2.2.2));have Hz0:=hid hz0;clear hz hz0;go_wp2_with fail;refine (refFault _ _ _ _ w0 _ _ own_it).mono ?_;rintro en w1 ⟨rfl,hs1⟩;unfold ftV;go_wp2_with fail;go_returns;exact RetF.no ⟨_,_,_,_⟩ own_left Hz0.out hb.out
   have hb2:=hid (show ∀ j,j<k+1→TaskFine (tcg c j) from fun j hj=>by
    rcases Nat.lt_or_ge j k with h | h
    ·exact Hb.out j h
    ·obtain rfl:j=k:=by omega
     exact ⟨G1.out,G2.out,G3.out,G4.out,G5.out,hz.1 hz0⟩)
   subst hz0;clear hz;go_wp2_with fail;go_roundw
   case rel=>exact ⟨k+1,by omega,by go_num,hb2.out,own_left⟩
   case measure=>simp [intOf];omega
   all_goals
    have hb:=hid (show ¬ Fine c from fun h=>by first | exact absurd (g.symm.trans (h.tk k hlt).1) (by decide) | exact absurd (g.symm.trans (h.tk k hlt).2.1) (by decide) | exact absurd (g.symm.trans (h.tk k hlt).2.2.1) (by decide) | exact absurd (g.symm.trans (h.tk k hlt).2.2.2.1) (by decide) | exact absurd (g.symm.trans (h.tk k hlt).2.2.2.2.1) (by decide));clear g;go_wp2_with fail;refine (refFault _ _ _ _ w0 _ _ own_it).mono ?_;rintro en w1 ⟨rfl,hs1⟩;unfold ftV;go_wp2_with fail;go_returns;exact RetF.no ⟨_,_,_,_⟩ own_left (by simp) hb.out
  have hkl:k=c.ts.length:=by omega
  subst hkl;have d3:decide (c.ts.length<c.ts.length)=false:=by simp
  clear hlt hk
  by_cases hl2:16<c.ls.length
  ·have d4:decide (16<c.ls.length)=true:=decide_eq_true hl2;have d5:decide ((16:Int)<(c.ls.length:Int))=true:=by simp;omega
   have hb:=hid (show ¬ Fine c from fun h=>by have:=h.ln;omega);go_wp2_with fail;refine (refFault _ _ _ _ w0 _ _ own_it).mono ?_;rintro en w1 ⟨rfl,hs1⟩;unfold ftV;go_wp2_with fail;go_returns;exact RetF.no ⟨_,_,_,_⟩ own_left (by simp) hb.out
  have d4:decide (16<c.ls.length)=false:=decide_eq_false hl2;have d5:decide ((16:Int)<(c.ls.length:Int))=false:=by simp;omega
  have hll:c.ls.length≤16:=by omega
  clear hl2;go_wp2_with fail;refine wp_gen (w0:=w0) ?_;intro w3 hs3;clear hsr
  go_loopw [7] (fun i wr=>∃ k:Nat,k≤c.ls.length∧i=.int .i64 k∧(∀ j,j<k→LineFine (lcg c j))∧Sat w0 wr (pts w0.heap.size 0 [.slice ta c.ts.length tcap,.slice la c.ls.length lcap,.int .i64 c.mutexes,.slice sa c.sems.length scap,.slice qa c.queues.length qcap,.slice ma c.timers.length mcap,.int .i64 c.table,.int .u32 c.mask,.int .u32 c.filter,.int .i64 c.charge,.int .u64 c.cycle,.int .u64 c.count]*(pts (w0.heap.size+1) 0 [.int .i64 0,.int .i64 0,.int .i64 0,.int .i64 0]*any))) (fun i _=>c.ls.length-(intOf i).toNat)
  case atStart=>exact ⟨0,Nat.zero_le _,rfl,fun j hj=>absurd hj (by omega),own_left⟩
  case round =>
   obtain ⟨k,hk,rfl,hb,hsr⟩:=hrel;clear hs3;have Hb2:=hid hb;clear hb
   by_cases hlt:k<c.ls.length
   ·have d6:decide (k<c.ls.length)=true:=decide_eq_true hlt;have i3:(k:Int)<(c.ls.length:Int):=by omega
    have hLl:=HLn.out;obtain rfl:=Hla.out (by intro h;simp [h] at hLl;omega);have hit:=HLi.out k hlt;obtain ⟨u,hu⟩:∃ u,u=L.getD k lv0:=⟨_,rfl⟩;have oc:∀ c' y,c'<2→(encLv.enc u)[c']?=some y→w0.cell? ⟨lg',lo+k*2+c',none⟩=some y:=fun c' y hc6 he=>oldArr_at Hlc.out (by omega) hc6 (by show (encLv.enc (L.getD k lv0))[c']?=some y;rw [← hu];exact he);rw [← hu] at hit;have hit:IsL w0 u (lcg c k):=hit;haveI o0:Old w0 lg' (lo+k*2) (.int .i64 (lcg c k).mem):=⟨by rw [← hit.mem];exact oc 0 _ (by decide) rfl⟩;haveI o1:Old w0 lg' (lo+k*2+1) (.slice u.ca u.cn u.cc):=⟨oc 1 _ (by decide) rfl⟩;have hC:=hid (fun (w:World) (h:Sat w0 w any)=>refCode u.cv (lcg c k).code true (Rg.out.lk k hlt) w (hit.code.later h));clear oc hu hLl hit;go_wp2_with fail;refine (refOut _ _ _ _ rfl _).mono ?_;rintro en w1 ⟨rfl,rfl⟩
    cases g:inR (lcg c k).mem 0 256
    rotate_left
    have G1:=hid g;clear g;go_wp2_with fail;refine (hC.out _ own_left).mono ?_;rintro en w1 ⟨z,kk,rfl,hs1,hz⟩;have hs2:=Sat.past (w0:=w0) own_it hs1;clear hs1 hsr
    by_cases hz0:z=0
    case neg =>
     have z1:(z != 0)=true:=by simp [hz0]
     have hb:=hid (show ¬ Fine c from fun h=>hz0 (hz.2 (h.lk k hlt).2));have Hz0:=hid hz0;clear hz hz0;go_wp2_with fail;refine (refFault _ _ _ _ w0 _ _ own_it).mono ?_;rintro en w1 ⟨rfl,hs1⟩;unfold ftV;go_wp2_with fail;go_returns;exact RetF.no ⟨_,_,_,_⟩ own_left Hz0.out hb.out
    have hb2:=hid (show ∀ j,j<k+1→LineFine (lcg c j) from fun j hj=>by
     rcases Nat.lt_or_ge j k with h | h
     ·exact Hb2.out j h
     ·obtain rfl:j=k:=by omega
      exact ⟨G1.out,hz.1 hz0⟩)
    subst hz0;clear hz;go_wp2_with fail;go_roundw
    case rel=>exact ⟨k+1,by omega,by go_num,hb2.out,own_left⟩
    case measure=>simp [intOf];omega
    all_goals
     have hb:=hid (show ¬ Fine c from fun h=>by first | exact absurd (g.symm.trans (h.lk k hlt).1) (by decide));clear g;go_wp2_with fail;refine (refFault _ _ _ _ w0 _ _ own_it).mono ?_;rintro en w1 ⟨rfl,hs1⟩;unfold ftV;go_wp2_with fail;go_returns;exact RetF.no ⟨_,_,_,_⟩ own_left (by simp) hb.out
   have hkl:k=c.ls.length:=by omega
   subst hkl;have d6:decide (c.ls.length<c.ls.length)=false:=by simp
   clear hlt hk;go_wp2_with fail;refine (refOut _ _ _ _ rfl _).mono ?_;rintro en w1 ⟨rfl,rfl⟩
   cases g:inR c.mutexes 0 32
   case false =>
    have hb:=hid (show ¬ Fine c from fun h=>absurd (g.symm.trans h.mu) (by decide));clear g;go_wp2_with fail;refine (refFault _ _ _ _ w0 _ _ own_it).mono ?_;rintro en w1 ⟨rfl,hs1⟩;unfold ftV;go_wp2_with fail;go_returns;exact RetF.no ⟨_,_,_,_⟩ own_left (by simp) hb.out
   have G1:=hid g;clear g;go_wp2_with fail;refine (hRs.out _ own_left).mono ?_;rintro en w1 ⟨f,rfl,hs1,hf⟩;have hs2:=Sat.past (w0:=w0) own_it hs1;clear hs1 hsr;have hsr:=hs2;clear hs2;unfold ftV
   by_cases hz0:f.err=0
   case neg =>
    have z1:(f.err != 0)=true:=by simp [hz0]
    have hb:=hid (show ¬ Fine c from fun h=>hz0 (hf.2 h.se));have Hz0:=hid hz0;clear hf hz0;go_wp2_with fail;go_returns;exact RetF.no ⟨_,_,_,_⟩ own_left Hz0.out hb.out
   have G2:=hid (hf.1 hz0);have z1:(f.err != 0)=false:=by simp [hz0]
   clear hf hz0;go_wp2_with fail;refine (hRq.out _ own_left).mono ?_;rintro en w1 ⟨f,rfl,hs1,hf⟩;have hs2:=Sat.past (w0:=w0) own_it hs1;clear hs1 hsr;have hsr:=hs2;clear hs2;unfold ftV
   by_cases hz0:f.err=0
   case neg =>
    have z1:(f.err != 0)=true:=by simp [hz0]
    have hb:=hid (show ¬ Fine c from fun h=>hz0 (hf.2 h.qu));have Hz0:=hid hz0;clear hf hz0;go_wp2_with fail;go_returns;exact RetF.no ⟨_,_,_,_⟩ own_left Hz0.out hb.out
   have G3:=hid (hf.1 hz0);have z1:(f.err != 0)=false:=by simp [hz0]
   clear hf hz0;go_wp2_with fail;refine (hRt.out _ own_left).mono ?_;rintro en w1 ⟨f,rfl,hs1,hf⟩;have hs2:=Sat.past (w0:=w0) own_it hs1;clear hs1 hsr;have hsr:=hs2;clear hs2;unfold ftV
   by_cases hz0:f.err=0
   case neg =>
    have z1:(f.err != 0)=true:=by simp [hz0]
    have hb:=hid (show ¬ Fine c from fun h=>hz0 (hf.2 h.tm));have Hz0:=hid hz0;clear hf hz0;go_wp2_with fail;go_returns;exact RetF.no ⟨_,_,_,_⟩ own_left Hz0.out hb.out
   have G4:=hid (hf.1 hz0);have z1:(f.err != 0)=false:=by simp [hz0]
   clear hf hz0;go_wp2_with fail;refine (refOut _ _ _ _ rfl _).mono ?_;rintro en w1 ⟨rfl,rfl⟩
   cases g:inR c.table 0 64
   case false =>
    have hb:=hid (show ¬ Fine c from fun h=>absurd (g.symm.trans h.tb) (by decide));clear g;go_wp2_with fail;refine (refFault _ _ _ _ w0 _ _ own_it).mono ?_;rintro en w1 ⟨rfl,hs1⟩;unfold ftV;go_wp2_with fail;go_returns;exact RetF.no ⟨_,_,_,_⟩ own_left (by simp) hb.out
   have G5:=hid g;clear g;go_wp2_with fail;refine wp_gen (w0:=w0) ?_;intro w5 hs5;clear hsr
   go_loopw [13,14] (fun m i wr=>∃ k:Nat,k≤c.ls.length∧m=.int .u32 ((c.mask / 2^k:Nat):Int)∧i=.int .i64 k∧Sat w0 wr (pts w0.heap.size 0 [.slice ta c.ts.length tcap,.slice la c.ls.length lcap,.int .i64 c.mutexes,.slice sa c.sems.length scap,.slice qa c.queues.length qcap,.slice ma c.timers.length mcap,.int .i64 c.table,.int .u32 c.mask,.int .u32 c.filter,.int .i64 c.charge,.int .u64 c.cycle,.int .u64 c.count]*(pts (w0.heap.size+1) 0 [.int .i64 0,.int .i64 0,.int .i64 0,.int .i64 0]*any))) (fun _ i _=>c.ls.length-(intOf i).toNat)
   case atStart=>exact ⟨0,Nat.zero_le _,by simp,rfl,own_left⟩
   case round =>
    obtain ⟨k,hk,rfl,rfl,hsr⟩:=hrel;clear hs5
    by_cases hlt:k<c.ls.length
    ·have d7:decide (k<c.ls.length)=true:=decide_eq_true hlt;have i3:(k:Int)<(c.ls.length:Int):=by omega
     have hm:=Rg.out.mask;have hle:c.mask / 2^k≤c.mask:=Nat.div_le_self _ _;obtain ⟨q,hq⟩:∃ q,q=c.mask / 2^k:=⟨_,rfl⟩;have hq2:c.mask / 2^(k+1)=q / 2:=by rw [Nat.pow_succ,← Nat.div_div_eq_div_mul,hq]
     have Hq:=hid hq2;rw [← hq] at hle ⊢;have hq3:q<4294967296:=by omega
     clear hq hq2 hle hm;go_wp2_with fail;go_roundw
     case rel=>exact ⟨k+1,by omega,by rw [Hq.out];go_num,by go_num,own_left⟩
     case measure=>simp [intOf];omega
    ·have hkl:k=c.ls.length:=by omega
     subst hkl;have d7:decide (c.ls.length<c.ls.length)=false:=by simp
     have hmo:maskOk c=decide (c.mask / 2^c.ls.length=0):=by
      unfold maskOk;rw [Nat.min_eq_left hll,Nat.shiftRight_eq_div_pow]
     generalize c.mask / 2^c.ls.length=q at *;clear hlt hk
     by_cases hq:q=0
     case neg =>
      have q1:((q:Int) != 0)=true:=by simp;omega
      have hb:=hid (show ¬ Fine c from fun h=>hq (of_decide_eq_true (hmo.symm.trans h.ms)));clear hmo hq;go_wp2_with fail;refine (refFault _ _ _ _ w0 _ _ own_it).mono ?_;rintro en w1 ⟨rfl,hs1⟩;unfold ftV;go_wp2_with fail;go_returns;exact RetF.no ⟨_,_,_,_⟩ own_left (by simp) hb.out
     subst hq;have G6:=hid (show maskOk c=true from hmo);clear hmo;go_wp2_with fail;refine (refOut _ _ _ _ rfl _).mono ?_;rintro en w1 ⟨rfl,rfl⟩
     cases g:inR c.charge 0 64
     case false =>
      have hb:=hid (show ¬ Fine c from fun h=>absurd (g.symm.trans h.ch) (by decide));clear g;go_wp2_with fail;refine (refFault _ _ _ _ w0 _ _ own_it).mono ?_;rintro en w1 ⟨rfl,hs1⟩;unfold ftV;go_wp2_with fail;go_returns;exact RetF.no ⟨_,_,_,_⟩ own_left (by simp) hb.out
     have G7:=hid g;clear g;have hx:=hid (show Fine c from ⟨htl,Hb.out,hll,Hb2.out,G1.out,G2.out,G3.out,G4.out,G5.out,G6.out,G7.out⟩);go_wp2_with fail;go_returns;exact ⟨ft0,rfl,own_left,fun _=>hx.out,fun _=>rfl⟩
end Go.Proofs.YtkeommmigopnkaaGreatDoor
