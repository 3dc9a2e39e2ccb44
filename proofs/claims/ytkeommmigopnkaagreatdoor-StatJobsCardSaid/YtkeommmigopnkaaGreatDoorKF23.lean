/-
  Parts of the proof: StWc.
-/
import Derived.Test.YtkeommmigopnkaaGreatDoorKF21
import Derived.Test.YtkeommmigopnkaaGreatDoorKF22
set_option linter.unusedVariables false
set_option linter.unusedSimpArgs false
set_option maxHeartbeats 32000000
set_option maxRecDepth 100000
namespace Go.Proofs.YtkeommmigopnkaaGreatDoor
open Go.RowKit Go.Sx Go.Dl Go.Lk Go.Rq Go.Au Go.Hi Go.St
theorem numsW_upd {κ:IntKind} {w0 w:World} {F:HP} {g off n cap k:Nat} {l:List Int} (hs:Sat w0 w (numsP κ (.slice (some ⟨g,off,none⟩) n cap) l*F)) (hk:k<l.length) (x:Int) :
  Sat w0 (w.setCell ⟨g,off+k,none⟩ (.int κ x)) (numsP κ (.slice (some ⟨g,off,none⟩) n cap) (l.set k x)*F):=by
 rcases hs.slice_out with ⟨e,_⟩ | ⟨g',off',cap',sp,e,h1,h2,hx,hsp,hs'⟩
 ·cases e
 ·simp only [Value.slice.injEq,Option.some.injEq,Addr.mk.injEq] at e;obtain ⟨⟨rfl,rfl,_⟩,rfl,rfl⟩:=e;have h3:=hs'.set (j:=k) (by rw [List.length_append,List.length_map];omega) (.int κ x);rw [List.set_append_left _ _ (by rw [List.length_map];exact hk),← List.map_set] at h3;have h4:=Sat.slice_in (k:=1) (n:=l.length) h3 h1 h2 (by simp) hsp;unfold numsP;rw [List.length_set];exact h4
instance (priority:=1300) Upd.numsW (κ:IntKind) (g off n cap k:Nat) (l:List Int) (x:Int) [h:Lt k l.length]:Upd (numsP κ (.slice (some ⟨g,off,none⟩) n cap) l) g (off+k) (.int κ x) (numsP κ (.slice (some ⟨g,off,none⟩) n cap) (l.set k x)):=⟨fun hs=>numsW_upd hs h.lt x⟩
abbrev lvC (c:Cf) (t:Nat):Int:=(sg (tks0 c) t).lev
abbrev dlC (c:Cf) (t:Nat):Int:=(sg (tks0 c) t).dl
theorem cf_task {w:World} {c:Cf} {ca:Option Addr} {cc:Nat} (h:RdTs w (.slice ca c.ts.length cc) c.ts) {t:Nat} (ht:t<c.ts.length):∃ cg co,ca=some ⟨cg,co,none⟩∧w.cell? ⟨cg,co+t*6,none⟩=some (.int .i64 (lvC c t))∧w.cell? ⟨cg,co+t*6+3,none⟩=some (.int .i64 (dlC c t)):=by
 obtain ⟨T,h1,h2,h3⟩:=h;rw [← h2] at h1;obtain ⟨cg,co,rfl,hrow⟩:=rdR_at (k:=t) h1 (by omega);have q:=h3 t ht;have e:sg (tks0 c) t=tsk (c.ts.getD t tc0):=by
  unfold sg tks0;rw [List.getD_eq_getElem?_getD,List.getElem?_map,List.getElem?_eq_getElem ht,List.getD_eq_getElem?_getD,List.getElem?_eq_getElem ht];rfl
 refine ⟨cg,co,rfl,?_,?_⟩
 ·have:=hrow 0 _ rfl;rw [Nat.add_zero] at this;unfold lvC;rw [e];show _=some (Value.int .i64 (c.ts.getD t tc0).lev);rw [← q.lev];exact this
 ·have:=hrow 3 _ rfl;unfold dlC;rw [e];show _=some (Value.int .i64 (c.ts.getD t tc0).dl);rw [← q.dl];exact this
def ReadP (w0:World) (F:HP) (c:Cf) (l:List Ev) (e:Ending) (w':World):Prop:=∃ (g:Nat) (R:Rb),e=.returned (.pointer (some ⟨g,0,none⟩))∧ReadR (Bk.read (tks0 c) l) R∧Sat w0 w' (rbP g R*F)
theorem map0 (c:Cf):(tks0 c).map (fun _=>(0:Int))=List.replicate c.ts.length 0:=by
 unfold tks0;rw [List.map_map];exact List.ext_getElem (by simp) fun i h1 h2=>by simp
theorem read_nil (c:Cf):ReadR (Bk.read (tks0 c) []) ⟨[],List.replicate c.ts.length 0,List.replicate c.ts.length 0,[]⟩:=by
 have e0:∀ f:Sk→Int,(∀ t:Tc,f (tsk t)=0)→List.replicate c.ts.length 0=(tks0 c).map f:=fun f hf=>by
  rw [← map0];unfold tks0;rw [List.map_map,List.map_map];exact List.map_congr_left fun t _=>(hf t).symm
 have e1:(bk0 (tks0 c)).steps none []=bk0 (tks0 c):=by rw [Bk.steps.eq_def]
 unfold Bk.read;rw [e1];exact ⟨rfl,e0 _ fun _=>rfl,e0 _ fun _=>rfl⟩
theorem rep_snoc (k:Nat):List.replicate k (0:Int)++[0]=List.replicate (k+1) 0:=by
 rw [List.replicate_succ']
theorem auS_snoc (A:Au) (l:List Ev) (e:Ev):auS A (l++[e])=stepA (auS A l) e:=by unfold auS;rw [List.foldl_append];rfl
theorem auS_seen:∀ (l:List Ev) (A:Au),(auS A l).seen=A.seen+l.length
 | [],A=>by show A.seen=A.seen+0;omega
 | e::l,A=>by
  show (auS (stepA A e) l).seen=_;rw [auS_seen l,List.length_cons];show A.seen+1+l.length=_;omega
theorem evs_snoc:∀ (l:List Ev) (R:Rb) (A:Au) (e:Ev),R.evs A (l++[e])=(R.evs A l).ev (auS A l) e
 | [],R,A,e=>rfl
 | x::l,R,A,e=>evs_snoc l (R.ev A x) (stepA A x) e
def loF (c:Cf) (r:Nat) (j:Jb):Jb:=if j.ended=false∧lvC c j.task.toNat<lvC c r then { j with lower:=w64 (j.lower+1) } else j
theorem ev_sc (R:Rb) (A:Au) (e:Ev):R.sc.length≤(R.ev A e).sc.length:=by
 have h1:∀ A:Au,(R.tk A e).sc=R.sc:=fun A=>by unfold Rb.tk;split<;>rfl
 have h2:∀ (Q:Rb) (A:Au),Q.sc.length≤(Q.kind A e).sc.length:=fun Q A=>by
  unfold Rb.kind
  repeat' split
  all_goals simp
 have h3:∀ (Q:Rb) (A:Au),(Q.lo A).sc=Q.sc:=fun Q A=>by unfold Rb.lo;split<;>rfl
 unfold Rb.ev;rw [h3];have:=h2 (R.tk A e) (stepA A e)
 rwa [h1] at this
theorem evs_sc:∀ (l:List Ev) (R:Rb) (A:Au),R.sc.length≤(R.evs A l).sc.length
 | [],R,A=>Nat.le_refl _
 | e::l,R,A=>Nat.le_trans (ev_sc R A e) (evs_sc l (R.ev A e) (stepA A e))
theorem RAt.mid {lv dl:Nat→Int} {n:Nat} {ts:List Sk} {l:List Ev} {s:Int} {k:Nat} {A:Au} {B:Bk} {R:Rb} (S:Span n l) (hf:∀ e∈l,EvFit n e) (h:RAt lv dl n ts l s k A B R) {e:Nat} (h1:k≤e) (h2:e≤l.length) :
  AOk (auS A ((l.drop k).take (e-k)))∧((auS A ((l.drop k).take (e-k))).run≠0→∃ r:Nat,(auS A ((l.drop k).take (e-k))).run=r+1∧r<n)∧(R.evs A ((l.drop k).take (e-k))).ran.length=n∧∀ j∈(R.evs A ((l.drop k).take (e-k))).jb,0≤j.task∧j.task<n:=by
 obtain ⟨T,G⟩:=h.qgr S;have hsub:∀ x∈(l.drop k).take (e-k),EvFit n x:=fun x hx=>hf x (List.mem_of_mem_drop (List.mem_of_mem_take hx));have hck:chk A ((l.drop k).take (e-k)++l.drop e)=none:=by
  have e1:(l.drop k).take (e-k)++l.drop e=l.drop k:=by
   have:=List.take_append_drop (e-k) (l.drop k);rw [List.drop_drop,show k+(e-k)=e by omega] at this;exact this
  rw [e1];exact h.at_.b.2.1
 obtain ⟨T1,_,R1,_,_⟩:=Rl.evs (by decide) T G h.r h.r.sp hck hsub;refine ⟨T1.ok,fun hr=>?_,by rw [R1.ran,List.length_map];exact T1.bk.len,R1.task T1.bk⟩;have a:=T1.run;rw [if_neg hr] at a;have b:=T1.ok.run;have d:=T1.bk.run.resolve_left (by omega);exact ⟨((auS A ((l.drop k).take (e-k))).run-1).toNat,by omega,by omega⟩
theorem RAt.fin {lv dl:Nat→Int} {n:Nat} {ts:List Sk} {l:List Ev} {s:Int} {k:Nat} {A A1:Au} {B:Bk} {R R1:Rb} {z:Bool} (S:Span n l) (hf:∀ e∈l,EvFit n e) (h:RAt lv dl n ts l s k A B R) {e:Nat} (h1:k≤e) (h2:e≤l.length) (h3:∀ i,k≤i→i<e→(evg l i).co=s) (h4:e=l.length∨(evg l e).co≠s)
  (hz:z=(decide (A.isr≠0) || hasEnter ((l.drop k).take (e-k)))) (hA1:A1=auS A ((l.drop k).take (e-k))) (hR1:R1=R.evs A ((l.drop k).take (e-k))) (hj:R.jb.length≤k) (hs:R.sc.length≤k) (hse:A.seen=k) :
  ∃ RS,RS=(if z=true∨A1.run=0 then R1 else R1.ranS lv (A1.run-1).toNat (opI R.sc (A1.run-1).toNat))∧RS.jb.length≤e∧RS.sc.length≤e∧A1.seen=e∧(s≠(evg l (l.length-1)).co→∃ B',RAt lv dl n ts l (s+1) e A1 B' RS)∧(s=(evg l (l.length-1)).co→Rl lv dl n ((bk0 ts).steps none l) RS∧Tie n A1 ((bk0 ts).steps none l)):=by
 have hsl2:((l.drop k).take (e-k)).length=e-k:=by rw [List.length_take,List.length_drop];omega
 have q:=h.step S hf h1 h2 h3 h4;have w:=stp_len lv ((l.drop k).take (e-k)) R A;rw [hsl2] at w;refine ⟨R.stp lv A ((l.drop k).take (e-k)),?_,by omega,by omega,?_,?_,fun hh=>?_⟩
 ·rw [hz,hA1,hR1];rfl
 ·rw [hA1,auS_seen,hsl2,hse];omega
 ·rw [hA1];exact q.1
 ·rw [hA1];exact ⟨(q.2 hh).2.1,(q.2 hh).2.2.2⟩
theorem rRead (v u:Value) (c:Cf) (l:List Ev) (G:GoodE c l) (hS:∀ i,i<l.length→(evg l i).co≤(evg l 0).co+1000) (hl:l.length≤600) (w0 w:World) (F:HP) (hr:RdCf w0 v c) (hu:RdR w0 u l) (hs:Sat w0 w F) :
  Calls Tryz.prog 11 #[v,u] w (ReadP w0 F c l):=by
 obtain ⟨ua,uc,rfl⟩:∃ ua uc,u=.slice ua l.length uc:=by
  obtain ⟨a,cap,b,off,e,_⟩:=hu;exact ⟨a,cap,e⟩
 have Hu:=hid hu;have HG:=hid G;have hn64:=G.nt;have HS:=hid (show Span c.ts.length l from ⟨chk_co G.ck,fun i hi=>(G.ft _ (evg_mem hi)).1.co,hS⟩);have HNew:=hid (fun (w:World) (G:HP) (h:Sat w0 w G)=>rfNew w0 w G h);obtain ⟨ta,la,sa,qa,ma,tc,lc,sc,qc,mc,rfl,h1,h2,h3,h4,h5⟩:=hr.form;have HT:=hid (show ∀ (w:World) (G:HP),Sat w0 w G→∀ t,t<c.ts.length→∃ cg co,ta=some ⟨cg,co,none⟩∧w.cell? ⟨cg,co+t*6,none⟩=some (.int .i64 (lvC c t))∧w.cell? ⟨cg,co+t*6+3,none⟩=some (.int .i64 (dlC c t)) from fun w G h t ht=>by
  obtain ⟨tv,lv,sv,qv,mv,e,hh,_⟩:=(hr.later h).out;simp only [Value.agg.injEq,Array.mk.injEq,List.cons.injEq] at e;obtain ⟨rfl,_⟩:=e;exact cf_task hh ht)
 clear hr hu G hS h1 h2 h3 h4 h5
 go_enter Tryz.func11,Tryz.ntmps11
 go_wp2_with fail;refine wp_gen (w0:=w0) ?_;intro wx hsx;clear hs;obtain ⟨cb,hcb⟩:∃ cb,cb=w.heap.size:=⟨_,rfl⟩;obtain ⟨gb,hgb⟩:∃ gb,gb=w.heap.size+1:=⟨_,rfl⟩;rw [← hgb,← hcb] at hsx;rw [← hgb,← hcb];clear hgb hcb
 go_loopw [27] (fun i wr=>∃ (k:Nat) (ra:Option Addr) (rc:Nat) (ka:Option Addr) (kc:Nat) (L K:List Int),k≤c.ts.length∧i=.int .i64 k∧L.length≤64∧K.length≤64∧Hid (L=List.replicate k 0∧K=List.replicate k 0)∧Sat w0 wr ((pts cb 0 [.slice ta c.ts.length tc,.slice la c.ls.length lc,.int .i64 c.mutexes,.slice sa c.sems.length sc,.slice qa c.queues.length qc,.slice ma c.timers.length mc,.int .i64 c.table,.int .u32 c.mask,.int .u32 c.filter,.int .i64 c.charge,.int .u64 c.cycle,.int .u64 c.count])*(pts gb 0 [.slice none 0 0,.slice ra L.length rc,.slice ka K.length kc,.slice none 0 0]*(numsP .u64 (.slice ra L.length rc) L*(numsP .i64 (.slice ka K.length kc) K*(F*any)))))) (fun i _=>c.ts.length-(intOf i).toNat)
 case atStart =>
  refine ⟨0,none,0,none,0,[],[],Nat.zero_le _,rfl,by decide,by decide,hid ⟨rfl,rfl⟩,?_⟩;have h1:Sat w0 wx ((pts cb 0 [.slice ta c.ts.length tc,.slice la c.ls.length lc,.int .i64 c.mutexes,.slice sa c.sems.length sc,.slice qa c.queues.length qc,.slice ma c.timers.length mc,.int .i64 c.table,.int .u32 c.mask,.int .u32 c.filter,.int .i64 c.charge,.int .u64 c.cycle,.int .u64 c.count])*(pts gb 0 [.slice none 0 0,.slice none 0 0,.slice none 0 0,.slice none 0 0]*(F*any))):=own_left;exact h1.perm (by show _=(pts cb 0 [.slice ta c.ts.length tc,.slice la c.ls.length lc,.int .i64 c.mutexes,.slice sa c.sems.length sc,.slice qa c.queues.length qc,.slice ma c.timers.length mc,.int .i64 c.table,.int .u32 c.mask,.int .u32 c.filter,.int .i64 c.charge,.int .u64 c.cycle,.int .u64 c.count])*(pts gb 0 _*(numsP .u64 (.slice none 0 0) []*(numsP .i64 (.slice none 0 0) []*_)));rw [numsP_nil,numsP_nil,emp_star,emp_star];rfl)
 case round =>
  obtain ⟨k,ra,rc,ka,kc,L,K,hk,rfl,hL,hK2,hLK,hsr⟩:=hrel;clear hsx
  by_cases hlt:k<c.ts.length
  ·have d1:decide (k<c.ts.length)=true:=decide_eq_true hlt;have i1:(k:Int)<(c.ts.length:Int):=by omega
   have hnx:=hid (show L++[0]=List.replicate (k+1) 0∧K++[0]=List.replicate (k+1) 0 from ⟨by rw [hLK.out.1];exact rep_snoc k,by rw [hLK.out.2];exact rep_snoc k⟩);have hl1:L.length<64:=by rw [hLK.out.1,List.length_replicate];omega
   have hl2:K.length<64:=by rw [hLK.out.2,List.length_replicate];omega
   clear hLK;go_wp2_with (first | (at_builtin;refine wpList_append_nums (κ:=.u64) rfl rfl rfl rfl (by omega) ?_;intro bp bc bL bw bhL bh1 bh2 bhs _) | (at_builtin;refine wpList_append_nums (κ:=.i64) rfl rfl rfl rfl (by omega) ?_;intro cp cc cL cw chL ch1 ch2 chs _));go_roundw
   case rel=>exact ⟨k+1,bp,bc,cp,cc,bL,cL,by omega,by go_num,by omega,by omega,hid ⟨bhL.out.trans hnx.out.1,chL.out.trans hnx.out.2⟩,own_left⟩
   case measure=>simp [intOf];omega
  ·have d1:decide (k<c.ts.length)=false:=decide_eq_false hlt;obtain rfl:k=c.ts.length:=by omega
   clear hlt
   by_cases hl0:l.length=0
   ·have e0:((l.length:Int)==0)=true:=by simp [hl0]
    have hnil:=hid (show l=[] from List.eq_nil_of_length_eq_zero hl0);clear hl0;go_wp2_with fail;go_ret;refine ⟨gb,⟨[],L,K,[]⟩,rfl,?_,?_⟩
    ·rw [hnil.out,hLK.out.1,hLK.out.2];exact read_nil c
    ·refine rb_in (ja:=none) (jc:=0) (ra:=ra) (rc:=rc) (ka:=ka) (kc:=kc) (ea:=none) (ec:=0) [] L K [] rfl rfl rfl rfl ?_;show Sat w0 wr (pts gb 0 [.slice none 0 0,.slice ra L.length rc,.slice ka K.length kc,.slice none 0 0]*(recsP (.slice none 0 0) ([]:List Jb)*(numsP .u64 (.slice ra L.length rc) L*(numsP .i64 (.slice ka K.length kc) K*(recsP (.slice none 0 0) ([]:List Sec)*F)))));rw [recsP_nil,recsP_nil,emp_star,emp_star];exact own_left
   ·have e0:((l.length:Int)==0)=false:=by rw [beq_eq_false_iff_ne];omega
    have hlp:0<l.length:=by omega
    obtain ⟨eg,eo,rfl,_⟩:=rdR_at (k:=0) Hu.out hlp;have HX:=hid (fun (w:World) (G:HP) (h:Sat w0 w G)=>ev_cell (Hu.out.later h) (k:=l.length-1) (by omega));have HY:=hid (fun (w:World) (G:HP) (h:Sat w0 w G)=>(show w.cell? ⟨eg,eo+2,none⟩=some (.int .u64 (evg l 0).co) by have q:=ev_cell (Hu.out.later h) (k:=0) hlp;rwa [Nat.zero_mul,Nat.add_zero] at q));have u9:IntKind.i64.wrap ((l.length:Int)-1)=((l.length-1:Nat):Int):=by rw [IntKind.wrap_i64];omega
    have d9:decide (l.length-1<l.length)=true:=decide_eq_true (by omega);have i9:((l.length-1:Nat):Int)<(l.length:Int):=by omega
    have d8:decide (0<l.length)=true:=decide_eq_true (by omega);have i8:(0:Int)<(l.length:Int):=by omega
    have HR0:=hid (rat_0 HG.out hlp);rw [map0,← hLK.out.1] at HR0;have hR0:=HR0.out;have hlk:L=K:=hLK.out.1.trans hLK.out.2.symm;clear hl0;go_wp2_with fail;refine (HNew.out _ _ hsr).mono ?_;rintro en w1 ⟨pb,rfl,hs1⟩;clear HR0;have hx9:=HX.out w1 _ hs1;have hy9:=HY.out w1 _ hs1
    go_upto_block 2 with fail
    refine wp_gen (w0:=w0) ?_;intro wy hsy;clear hsr hs1 hx9 hy9;have hst0:Sat w0 wy ((pts cb 0 [.slice ta c.ts.length tc,.slice la c.ls.length lc,.int .i64 c.mutexes,.slice sa c.sems.length sc,.slice qa c.queues.length qc,.slice ma c.timers.length mc,.int .i64 c.table,.int .u32 c.mask,.int .u32 c.filter,.int .i64 c.charge,.int .u64 c.cycle,.int .u64 c.count])*(rbP gb ⟨[],L,K,[]⟩*(rfP pb au0*(F*any)))):=by
     refine Sat.perm (rb_in (g:=gb) (R:=⟨[],L,K,[]⟩) (F:=rfP pb au0*((pts cb 0 [.slice ta c.ts.length tc,.slice la c.ls.length lc,.int .i64 c.mutexes,.slice sa c.sems.length sc,.slice qa c.queues.length qc,.slice ma c.timers.length mc,.int .i64 c.table,.int .u32 c.mask,.int .u32 c.filter,.int .i64 c.charge,.int .u64 c.cycle,.int .u64 c.count])*(F*any))) (ja:=none) (jc:=0) (ra:=ra) (rc:=rc) (ka:=ka) (kc:=kc) (ea:=none) (ec:=0) [] L K [] rfl rfl rfl rfl ?_) (by ac_rfl);show Sat w0 wy (pts gb 0 [.slice none 0 0,.slice ra L.length rc,.slice ka K.length kc,.slice none 0 0]*(recsP (.slice none 0 0) ([]:List Jb)*(numsP .u64 (.slice ra L.length rc) L*(numsP .i64 (.slice ka K.length kc) K*(recsP (.slice none 0 0) ([]:List Sec)*_)))));rw [recsP_nil,recsP_nil,emp_star,emp_star];exact own_left
    rw [← hlk] at hst0;have HR0:=hid hR0;obtain ⟨last,hlast⟩:∃ last,last=(evg l (l.length-1)).co:=⟨_,rfl⟩;rw [← hlast] at HX
    try rw [← hlast]
    have HL:=hid hlast;obtain ⟨s0,hs0⟩:∃ s,s=(evg l 0).co:=⟨_,rfl⟩;rw [← hs0] at HY HR0
    try rw [← hs0]
    have Hs0:=hid hs0;clear hlast hs0 hR0 hsy
    go_cut [9] (fun sv wx=>∃ (A:Au) (RS:Rb),RS.jb.length≤600∧RS.sc.length≤600∧Hid (Rl (lvC c) (dlC c) c.ts.length ((bk0 (tks0 c)).steps none l) RS∧Tie c.ts.length A ((bk0 (tks0 c)).steps none l))∧Sat w0 wx ((pts cb 0 [.slice ta c.ts.length tc,.slice la c.ls.length lc,.int .i64 c.mutexes,.slice sa c.sems.length sc,.slice qa c.queues.length qc,.slice ma c.timers.length mc,.int .i64 c.table,.int .u32 c.mask,.int .u32 c.filter,.int .i64 c.charge,.int .u64 c.cycle,.int .u64 c.count])*(rbP gb RS*(F*any))))
    case first =>
     as_aux_lemma =>
     go_wp2_with fail
     go_loopw [7,9] (fun av sv wr=>∃ (k:Nat) (s:Int) (A:Au) (B:Bk) (R:Rb),av=.int .i64 k∧sv=.int .u64 s∧Hid (RAt (lvC c) (dlC c) c.ts.length (tks0 c) l s k A B R)∧R.jb.length≤k∧R.sc.length≤k∧A.seen=k∧k<l.length∧s≤last∧0≤s∧Sat w0 wr ((pts cb 0 [.slice ta c.ts.length tc,.slice la c.ls.length lc,.int .i64 c.mutexes,.slice sa c.sems.length sc,.slice qa c.queues.length qc,.slice ma c.timers.length mc,.int .i64 c.table,.int .u32 c.mask,.int .u32 c.filter,.int .i64 c.charge,.int .u64 c.cycle,.int .u64 c.count])*(rbP gb R*(rfP pb A*(F*any))))) (fun _ sv _=>(last-intOf sv).toNat)
     case atStart =>
      refine ⟨0,s0,au0,bk0 (tks0 c),⟨[],L,L,[]⟩,rfl,rfl,HR0,Nat.le_refl _,Nat.le_refl _,rfl,hlp,?_,?_,own_left⟩
      ·rw [Hs0.out,HL.out];exact HS.out.up 0 _ (by omega) (by omega)
      ·rw [Hs0.out];exact (HS.out.lo 0 hlp).1
     case round =>
      obtain ⟨k,s,A,B,R,rfl,rfl,HA,hjk,hsk,hseen,hkl,hsl,hs00,hsr⟩:=hrel;clear hst0 HR0;obtain ⟨TT,GG⟩:=HA.out.qgr HS.out;have hok:=TT.ok;have hisr:=TT.ok.isr;have hrun:=TT.ok.run;clear TT GG;obtain ⟨tg,tq,cap,c1,c2,hs2⟩:=rfP_out hok (hsr.pull (Q:=rfP pb A));obtain ⟨zl,hzl⟩:∃ z:Bool,z=decide (A.isr≠0):=⟨_,rfl⟩;have e14:decide (0≤A.isr-1)=zl:=by
       rw [hzl]
       by_cases q:A.isr=0
       ·rw [decide_eq_false (by omega),decide_eq_false (by omega)]
       ·rw [decide_eq_true (by omega),decide_eq_true (by omega)]
      have e14b:decide (1≤A.isr)=zl:=by rw [← e14];exact decide_eq_decide.2 ⟨fun _=>by omega,fun _=>by omega⟩
      have Hzl:=hid hzl;clear hzl hsr;go_wp2_with fail;refine wp_gen (w0:=w0) ?_;intro wv hsv;clear hs2;have hs3:Sat w0 wv ((pts cb 0 [.slice ta c.ts.length tc,.slice la c.ls.length lc,.int .i64 c.mutexes,.slice sa c.sems.length sc,.slice qa c.queues.length qc,.slice ma c.timers.length mc,.int .i64 c.table,.int .u32 c.mask,.int .u32 c.filter,.int .i64 c.charge,.int .u64 c.cycle,.int .u64 c.count])*(rbP gb R*(rfP pb A*(F*any)))):=by
       refine Sat.perm (rfP_of (b:=pb) (A:=A) (F:=(pts cb 0 [.slice ta c.ts.length tc,.slice la c.ls.length lc,.int .i64 c.mutexes,.slice sa c.sems.length sc,.slice qa c.queues.length qc,.slice ma c.timers.length mc,.int .i64 c.table,.int .u32 c.mask,.int .u32 c.filter,.int .i64 c.charge,.int .u64 c.cycle,.int .u64 c.count])*(rbP gb R*(F*any))) (v:=.slice (some ⟨tg,tq,none⟩) 64 cap) ?_) (by ac_rfl);exact own_left
      clear hsv c1 c2;have HOp:=hid (fun (j:Nat) (jv rv kv:Value) (ea:Option Addr) (ec:Nat) (w:World) (G:HP) (h:Sat w0 w (pts gb 0 [jv,rv,kv,.slice ea R.sc.length ec]*(recsP (.slice ea R.sc.length ec) R.sc*G)))=>rOpen gb jv rv kv ea ec R.sc (by omega) j w0 w G h)
      go_loopw [75,11] (fun iv av wr=>∃ (j:Nat) (ha:Option Addr) (hc:Nat) (Lh:List Int),j≤c.ts.length∧iv=.int .i64 j∧av=.slice ha Lh.length hc∧Lh.length≤j∧j≤Lh.length∧Hid (Lh=(List.range j).map (fun t=>fidx (opI R.sc t)))∧Sat w0 wr ((pts cb 0 [.slice ta c.ts.length tc,.slice la c.ls.length lc,.int .i64 c.mutexes,.slice sa c.sems.length sc,.slice qa c.queues.length qc,.slice ma c.timers.length mc,.int .i64 c.table,.int .u32 c.mask,.int .u32 c.filter,.int .i64 c.charge,.int .u64 c.cycle,.int .u64 c.count])*(rbP gb R*(rfP pb A*(numsP .i64 (.slice ha Lh.length hc) Lh*(F*any)))))) (fun iv _ _=>c.ts.length-(intOf iv).toNat)
      case atStart =>
       refine ⟨0,_,0,[],Nat.zero_le _,rfl,rfl,Nat.le_refl _,Nat.le_refl _,rfl,?_⟩;show Sat w0 wv ((pts cb 0 [.slice ta c.ts.length tc,.slice la c.ls.length lc,.int .i64 c.mutexes,.slice sa c.sems.length sc,.slice qa c.queues.length qc,.slice ma c.timers.length mc,.int .i64 c.table,.int .u32 c.mask,.int .u32 c.filter,.int .i64 c.charge,.int .u64 c.cycle,.int .u64 c.count])*(rbP gb R*(rfP pb A*(numsP .i64 (.slice (some ⟨_,0,none⟩) 0 0) []*(F*any)))));rw [numsP_empty,emp_star];exact own_left
      case round =>
       obtain ⟨j,ha,hc,Lh,hj,rfl,rfl,hj1,hj2,hLh,hsr⟩:=hrel;clear hs3
       by_cases hlt:j<c.ts.length
       ·have d1:decide (j<c.ts.length)=true:=decide_eq_true hlt;have i1:(j:Int)<(c.ts.length:Int):=by omega
        have hnx:=hid (show Lh++[fidx (opI R.sc j)]=(List.range (j+1)).map (fun t=>fidx (opI R.sc t)) by rw [hLh.out,List.range_succ,List.map_append];rfl);clear hLh;obtain ⟨ja,jc,ra2,rc2,ka2,kc2,ea,ec,hs5⟩:=rb_out (hsr.pull (Q:=rbP gb R));clear hsr;go_wp2_with fail;refine (HOp.out j (.slice ja R.jb.length jc) (.slice ra2 R.ran.length rc2) (.slice ka2 R.tak.length kc2) ea ec _ ((pts cb 0 [.slice ta c.ts.length tc,.slice la c.ls.length lc,.int .i64 c.mutexes,.slice sa c.sems.length sc,.slice qa c.queues.length qc,.slice ma c.timers.length mc,.int .i64 c.table,.int .u32 c.mask,.int .u32 c.filter,.int .i64 c.charge,.int .u64 c.cycle,.int .u64 c.count])*(recsP (.slice ja R.jb.length jc) R.jb*(numsP .u64 (.slice ra2 R.ran.length rc2) R.ran*(numsP .i64 (.slice ka2 R.tak.length kc2) R.tak*(rfP pb A*(numsP .i64 (.slice ha Lh.length hc) Lh*(F*any))))))) own_left).mono ?_;rintro en w3 ⟨rfl,hs6⟩;clear hs5;obtain ⟨fx,hfx⟩:∃ fx,fx=fidx (opI R.sc j):=⟨_,rfl⟩;rw [← hfx] at hnx;rw [← hfx];clear hfx;go_wp2_with (at_builtin;refine wpList_append_nums (κ:=.i64) rfl rfl rfl rfl (by omega) ?_;intro bp bc bL bw bhL bh1 bh2 bhs _);clear hs6;go_roundw
        case rel =>
         refine ⟨j+1,bp,bc,bL,by omega,by go_num,rfl,by omega,by omega,bhL.out.trans hnx.out,?_⟩;refine Sat.perm (rb_in (g:=gb) (R:=R) (F:=(pts cb 0 [.slice ta c.ts.length tc,.slice la c.ls.length lc,.int .i64 c.mutexes,.slice sa c.sems.length sc,.slice qa c.queues.length qc,.slice ma c.timers.length mc,.int .i64 c.table,.int .u32 c.mask,.int .u32 c.filter,.int .i64 c.charge,.int .u64 c.cycle,.int .u64 c.count])*(rfP pb A*(numsP .i64 (.slice bp bL.length bc) bL*(F*any)))) (ja:=ja) (jc:=jc) (ra:=ra2) (rc:=rc2) (ka:=ka2) (kc:=kc2) (ea:=ea) (ec:=ec) R.jb R.ran R.tak R.sc rfl rfl rfl rfl ?_) (by ac_rfl);exact own_left
        case measure=>simp [intOf];omega
       ·have d1:decide (j<c.ts.length)=false:=decide_eq_false hlt;obtain rfl:j=c.ts.length:=by omega
        clear hlt
        go_upto_block 6 with fail
        refine wp_gen (w0:=w0) ?_;intro wu hsu;clear hsr
        go_cut [7,10] (fun av lv wx=>∃ (p:Nat) (z:Bool) (A1:Au) (R1:Rb),k≤p∧p≤l.length∧av=.int .i64 p∧lv=.bool z∧Hid (z=(zl || hasEnter ((l.drop k).take (p-k)))∧A1=auS A ((l.drop k).take (p-k))∧R1=R.evs A ((l.drop k).take (p-k))∧∀ i,k≤i→i<p→(evg l i).co=s)∧Hid (p=l.length∨(evg l p).co≠s)∧Sat w0 wx ((pts cb 0 [.slice ta c.ts.length tc,.slice la c.ls.length lc,.int .i64 c.mutexes,.slice sa c.sems.length sc,.slice qa c.queues.length qc,.slice ma c.timers.length mc,.int .i64 c.table,.int .u32 c.mask,.int .u32 c.filter,.int .i64 c.charge,.int .u64 c.cycle,.int .u64 c.count])*(rbP gb R1*(rfP pb A1*(numsP .i64 (.slice ha Lh.length hc) Lh*(F*any))))))
        case first =>
         as_aux_lemma =>
         go_wp2_with fail
         go_loopw [7,10] (fun av lv wr=>∃ (p:Nat) (z:Bool) (A1:Au) (R1:Rb),k≤p∧p≤l.length∧av=.int .i64 p∧lv=.bool z∧Hid (z=(zl || hasEnter ((l.drop k).take (p-k)))∧A1=auS A ((l.drop k).take (p-k))∧R1=R.evs A ((l.drop k).take (p-k))∧∀ i,k≤i→i<p→(evg l i).co=s)∧Sat w0 wr ((pts cb 0 [.slice ta c.ts.length tc,.slice la c.ls.length lc,.int .i64 c.mutexes,.slice sa c.sems.length sc,.slice qa c.queues.length qc,.slice ma c.timers.length mc,.int .i64 c.table,.int .u32 c.mask,.int .u32 c.filter,.int .i64 c.charge,.int .u64 c.cycle,.int .u64 c.count])*(rbP gb R1*(rfP pb A1*(numsP .i64 (.slice ha Lh.length hc) Lh*(F*any)))))) (fun av _ _=>l.length-(intOf av).toNat)
         case atStart =>
          refine ⟨k,zl,A,R,Nat.le_refl _,by omega,rfl,rfl,?_,own_left⟩;rw [Nat.sub_self,List.take_zero];exact hid ⟨by simp [hasEnter],rfl,rfl,fun i a b=>by omega⟩
         case round =>
          obtain ⟨p,z,A1,R1,hkp,hp,rfl,rfl,hQ,hsr⟩:=hrel;clear hsu
          by_cases hpl:p<l.length
          ·have d1:decide (p<l.length)=true:=decide_eq_true hpl;have i1:(p:Int)<(l.length:Int):=by omega
           have hrow0:wr.rangeAt eg (eo+p*6) (evCells (evg l p)):=by
            obtain ⟨g2,o2,e,hrow⟩:=rdR_at (k:=p) (Hu.out.later hsr) hpl;simp only [Option.some.injEq,Addr.mk.injEq] at e;obtain ⟨rfl,rfl,_⟩:=e;exact hrow
           have HRow:=hid (fun (w:World) (G:HP) (h:Sat w0 w G)=>(show w.rangeAt eg (eo+p*6) (evCells (evg l p)) by
            obtain ⟨g2,o2,e,hrow⟩:=rdR_at (k:=p) (Hu.out.later h) hpl;simp only [Option.some.injEq,Addr.mk.injEq] at e;obtain ⟨rfl,rfl,_⟩:=e;exact hrow))
           have hEv:=hid (HG.out.ft _ (evg_mem hpl)).1;have hN:=hid (by
            have q:=HA.out.now HS.out HG.out.ft hl (j:=p-k) (by omega);rw [show k+(p-k)=p by omega,← hQ.out.2.1,← hQ.out.2.2.1] at q;exact q)
           have hlen:=evs_len ((l.drop k).take (p-k)) R A;rw [← hQ.out.2.2.1] at hlen;have hsl2:((l.drop k).take (p-k)).length=p-k:=by rw [List.length_take,List.length_drop];omega
           rw [hsl2] at hlen;have hse:A1.seen=p:=by rw [hQ.out.2.1,auS_seen,hsl2,hseen];omega
           have hnx:=hid (by
            have e1:(l.drop k).take (p+1-k)=(l.drop k).take (p-k)++[evg l p]:=by
             rw [show p+1-k=(p-k)+1 by omega,take_next (by rw [List.length_drop];omega),evg_drop,show k+(p-k)=p by omega]
            exact (show hasEnter ((l.drop k).take (p+1-k))=(hasEnter ((l.drop k).take (p-k)) || decide ((evg l p).k=3))∧stepA A1 (evg l p)=auS A ((l.drop k).take (p+1-k))∧R1.ev A1 (evg l p)=R.evs A ((l.drop k).take (p+1-k)) by
             rw [e1];refine ⟨by unfold hasEnter;rw [List.any_append];simp,by rw [auS_snoc,← hQ.out.2.1],by rw [evs_snoc,← hQ.out.2.1,← hQ.out.2.2.1]⟩))
           have HE:=hid (fun (w:World) (G:HP) (h:Sat w0 w (rbP gb R1*(rfP pb A1*G)))=>rEvent gb pb R1 A1 c.ts.length (evg l p) hN.out (by omega) (by omega) hEv.out (by omega) c ta la sa qa ma tc lc sc qc mc w0 w G h);clear hN hlen hse hEv hsl2;obtain ⟨e,he⟩:∃ e,e=evg l p:=⟨_,rfl⟩;rw [← he] at hrow0 HRow hnx HE;have Heco:=hid (show (evg l p).co=e.co by rw [he]);clear he;obtain ⟨ek,ecy,eco,ea2,eb,ev⟩:=e;have hc0:wr.cell? ⟨eg,eo+p*6,none⟩=some (.int .i64 ek):=by
            have:=hrow0 0 _ rfl
            rwa [Nat.add_zero] at this
           have hc2:wr.cell? ⟨eg,eo+p*6+2,none⟩=some (.int .u64 eco):=hrow0 2 _ rfl;clear hrow0
           by_cases hco:eco=s
           ·have e2:(eco==s)=true:=by simp [hco]
            obtain ⟨zk,hzk⟩:∃ zk:Bool,zk=(ek==3):=⟨_,rfl⟩;have Hzk:=hid (show decide (ek=3)=zk by rw [hzk];rfl);have hq5:=hid (show ∀ i,k≤i→i<p+1→(evg l i).co=s from fun i a b=>by
             by_cases q:i=p
             ·rw [q,Heco.out];exact hco
             ·exact hQ.out.2.2.2 i a (by omega))
            have hq6:=hid (show (z || zk)=(zl || hasEnter ((l.drop k).take (p+1-k))) by rw [hnx.out.1,← Bool.or_assoc,← hQ.out.1,← Hzk.out]);obtain ⟨zo,hzo⟩:∃ zo:Bool,zo=(z || zk):=⟨_,rfl⟩;rw [← hzo] at hq6;have Hzo:=hid hzo;have hzk2:=hzk.symm;clear hco hzk hQ Heco Hzk hzo
            go_upto_region 22 with fail
            go_cut [10] (fun lv wx=>lv=.bool zo∧Sat w0 wx ((pts cb 0 [.slice ta c.ts.length tc,.slice la c.ls.length lc,.int .i64 c.mutexes,.slice sa c.sems.length sc,.slice qa c.queues.length qc,.slice ma c.timers.length mc,.int .i64 c.table,.int .u32 c.mask,.int .u32 c.filter,.int .i64 c.charge,.int .u64 c.cycle,.int .u64 c.count])*(rbP gb R1*(rfP pb A1*(numsP .i64 (.slice ha Lh.length hc) Lh*(F*any))))))
            case first =>
             as_aux_lemma =>
             cases z
             case true =>
              obtain rfl:zo=true:=Hzo.out;go_wp2_with fail
              go_meet
              exact ⟨rfl,own_left⟩
             case false =>
              obtain rfl:zo=zk:=Hzo.out;go_wp2_with fail
              go_meet
              exact ⟨rfl,own_left⟩
            case rest =>
             as_aux_lemma =>
             obtain ⟨rfl,hst0⟩:=hcut;go_wp2_with fail;refine wp_gen (w0:=w0) ?_;intro wt hst;clear hsr hst0 hc0 hc2 hzk2 Hzo;refine wp_region_early (fun w'=>Sat w0 w' ((pts cb 0 [.slice ta c.ts.length tc,.slice la c.ls.length lc,.int .i64 c.mutexes,.slice sa c.sems.length sc,.slice qa c.queues.length qc,.slice ma c.timers.length mc,.int .i64 c.table,.int .u32 c.mask,.int .u32 c.filter,.int .i64 c.charge,.int .u64 c.cycle,.int .u64 c.count])*any)) [(0,true),(1,true),(2,true),(3,true),(4,true),(5,true),(6,true),(7,false)] (by kernel_rfl) (by kernel_rfl) (fun _ _ _ _ h=>h) own_left ?_
             iterate 6 (first | refine early_S ?_ | refine early_N ?_)
             refine early_load_row (cells:=[.int .i64 ek,.int .u64 ecy,.int .u64 eco,.int .u32 ea2,.int .u32 eb,.int .u32 ev]) rfl rfl rfl rfl (fun w h=>HRow.out w _ h) Tryz.underlying45 rfl (by kernel_rfl) ?_;simp only [Act.put,zqA,zqP,zqQ];refine early_G rfl (by rfl) (fun K hK=>?_);go_wp2_with fail;refine (HE.out _ ((pts cb 0 [.slice ta c.ts.length tc,.slice la c.ls.length lc,.int .i64 c.mutexes,.slice sa c.sems.length sc,.slice qa c.queues.length qc,.slice ma c.timers.length mc,.int .i64 c.table,.int .u32 c.mask,.int .u32 c.filter,.int .i64 c.charge,.int .u64 c.cycle,.int .u64 c.count])*(numsP .i64 (.slice ha Lh.length hc) Lh*(F*any))) own_left).mono ?_;rintro en w4 ⟨rfl,hs7⟩;clear HE HRow;go_wp2_with fail;refine ⟨own_left,?_⟩;refine early_done ?_;clear hst;go_wp2_with fail;go_roundw
             case rel=>exact ⟨p+1,zo,_,_,by omega,by omega,by go_num,rfl,hid ⟨hq6.out,hnx.out.2.1,hnx.out.2.2,hq5.out⟩,own_left⟩
             case measure=>simp [intOf];omega
           ·have e2:(eco==s)=false:=by simp [hco]
            have hend:=hid (show p=l.length∨(evg l p).co≠s from .inr (by rw [Heco.out];exact hco));clear hco HRow hnx HE Heco;go_wp2_with fail
            go_meet
            exact ⟨p,z,A1,R1,hkp,hp,rfl,rfl,hQ,hend,own_left⟩
          ·have d1:decide (p<l.length)=false:=decide_eq_false hpl;have hend:=hid (show p=l.length∨(evg l p).co≠s from .inl (by omega));go_wp2_with fail
           go_meet
           exact ⟨p,z,A1,R1,hkp,hp,rfl,rfl,hQ,hend,own_left⟩
        case rest =>
         as_aux_lemma =>
         obtain ⟨p,z,A1,R1,hkp,hp,rfl,rfl,hQ,hend,hsr⟩:=hcut;clear hsu;have HM:=hid (show AOk A1∧(A1.run≠0→∃ r:Nat,A1.run=r+1∧r<c.ts.length)∧R1.ran.length=c.ts.length∧∀ j∈R1.jb,0≤j.task∧j.task<c.ts.length from by
          rw [hQ.out.2.1,hQ.out.2.2.1];exact HA.out.mid HS.out HG.out.ft hkp hp)
         have HSC:=hid (show R.sc.length≤R1.sc.length from by rw [hQ.out.2.2.1];exact evs_sc _ _ _);have HJ1:=hid (show R1.jb.length≤700∧R1.sc.length≤700 from by
          have q:=evs_len ((l.drop k).take (p-k)) R A;have q2:((l.drop k).take (p-k)).length=p-k:=by rw [List.length_take,List.length_drop];omega
          rw [q2,← hQ.out.2.2.1] at q;omega)
         obtain ⟨RS,hRS,hl1,hl2,hse1,hnx,hfn⟩:=HA.out.fin (z:=z) (A1:=A1) (R1:=R1) HS.out HG.out.ft hkp hp hQ.out.2.2.2 hend.out (by rw [hQ.out.1,Hzl.out]) hQ.out.2.1 hQ.out.2.2.1 hjk hsk hseen;have hRS:=hid hRS;have hnx:=hid hnx;have hfn:=hid hfn;obtain ⟨zb,hzb⟩:∃ zb:Bool,zb=(!z && decide (A1.run≠0)):=⟨_,rfl⟩;have Hzb:=hid hzb;clear hQ hend hzb
         go_upto_region 25 with fail
         go_cut [125] (fun bv wx=>bv=.bool zb∧Sat w0 wx ((pts cb 0 [.slice ta c.ts.length tc,.slice la c.ls.length lc,.int .i64 c.mutexes,.slice sa c.sems.length sc,.slice qa c.queues.length qc,.slice ma c.timers.length mc,.int .i64 c.table,.int .u32 c.mask,.int .u32 c.filter,.int .i64 c.charge,.int .u64 c.cycle,.int .u64 c.count])*(rbP gb R1*(rfP pb A1*(numsP .i64 (.slice ha Lh.length hc) Lh*(F*any))))))
         case first =>
          as_aux_lemma =>
          cases z
          case true =>
           obtain rfl:zb=false:=Hzb.out;go_wp2_with fail
           go_meet
           exact ⟨rfl,own_left⟩
          case false =>
           obtain ⟨tg1,tq1,cap1,c11,c12,hs4⟩:=rfP_out HM.out.1 (hsr.pull (Q:=rfP pb A1));have hne:(rn A1.run != 255)=zb:=by
            rw [Hzb.out];unfold rn
            by_cases q:A1.run=0
            ·rw [if_pos q];simp [q]
            ·obtain ⟨r,r1,r2⟩:=HM.out.2.1 q;rw [if_neg q];have hn3:=HG.out.nt;simp [q];omega
           clear hsr;go_wp2_with fail
           go_meet
           refine ⟨rfl,?_⟩;refine Sat.perm (rfP_of (b:=pb) (A:=A1) (F:=(pts cb 0 [.slice ta c.ts.length tc,.slice la c.ls.length lc,.int .i64 c.mutexes,.slice sa c.sems.length sc,.slice qa c.queues.length qc,.slice ma c.timers.length mc,.int .i64 c.table,.int .u32 c.mask,.int .u32 c.filter,.int .i64 c.charge,.int .u64 c.cycle,.int .u64 c.count])*(rbP gb R1*(numsP .i64 (.slice ha Lh.length hc) Lh*(F*any)))) (v:=.slice (some ⟨tg1,tq1,none⟩) 64 cap1) ?_) (by ac_rfl);exact own_left
         case rest =>
          as_aux_lemma =>
          obtain ⟨rfl,hs0⟩:=hcut;clear hsr
          go_upto_if 125 with fail
          go_cut [13] (fun rv wx=>Sat w0 wx ((pts cb 0 [.slice ta c.ts.length tc,.slice la c.ls.length lc,.int .i64 c.mutexes,.slice sa c.sems.length sc,.slice qa c.queues.length qc,.slice ma c.timers.length mc,.int .i64 c.table,.int .u32 c.mask,.int .u32 c.filter,.int .i64 c.charge,.int .u64 c.cycle,.int .u64 c.count])*(rbP gb RS*(rfP pb A1*(F*any)))))
          case first =>
           as_aux_lemma =>
           refine wp_gen (w0:=w0) ?_;intro wr hsr;clear hs0
           cases zb
           case false =>
            obtain rfl:RS=R1:=by
             rw [hRS.out,if_pos];have q:=Hzb.out
             cases z
             ·refine .inr ?_
              by_cases q2:A1.run=0
              ·exact q2
              ·simp [q2] at q
             ·exact .inl rfl
            go_wp2_with fail
            go_meet
            exact own_left
           case true =>
            have hr0:A1.run≠0:=by
             intro q;have:=Hzb.out;rw [q] at this;simp at this
            have hz0:z=false:=by
             have:=Hzb.out
             cases z
             ·rfl
             ·simp at this
            subst hz0;obtain ⟨r,hr1,hrn2⟩:=HM.out.2.1 hr0;have hrn:rn A1.run=(r:Int):=by unfold rn;rw [if_neg hr0];omega
            have hRS2:=hid (show RS=R1.ranS (lvC c) r (opI R.sc r) by rw [hRS.out,if_neg (by simp [hr0]),show (A1.run-1).toNat=r by omega]);clear hr0 hr1;obtain ⟨tg1,tq1,cap1,c11,c12,hs4⟩:=rfP_out HM.out.1 (hsr.pull (Q:=rfP pb A1));rw [hrn] at hs4;clear hsr;have hs4:=Sat.perm hs4 (show _=(rbP gb R1*(pts pb 0 [.slice (some ⟨tg1,tq1,none⟩) 64 cap1]*(recsP (.slice (some ⟨tg1,tq1,none⟩) 64 cap1) (A1.ts.map toTr)*(pts pb 1 (dn A1.ow)*(pts pb 33 (A1.pn.map Value.bool)*(pts pb 49 [.int .i64 (A1.isr-1),.int .i64 (r:Int)]*(pts pb 51 (evCells A1.last)*(pts pb 57 (evCells (duEv A1.due))*(pts pb 63 [.int .i64 A1.seen,.bool false]*((pts cb 0 [.slice ta c.ts.length tc,.slice la c.ls.length lc,.int .i64 c.mutexes,.slice sa c.sems.length sc,.slice qa c.queues.length qc,.slice ma c.timers.length mc,.int .i64 c.table,.int .u32 c.mask,.int .u32 c.filter,.int .i64 c.charge,.int .u64 c.cycle,.int .u64 c.count])*(numsP .i64 (.slice ha Lh.length hc) Lh*(F*any)))))))))))) by ac_rfl);obtain ⟨ja,jc,ra2,rc2,ka2,kc2,ea,ec,hs5⟩:=rb_out hs4;clear hs4;have hrl:r<R1.ran.length:=by rw [HM.out.2.2.1];exact hrn2
            haveI:Lt r R1.ran.length:=⟨hrl⟩;have ir:(r:Int)<(R1.ran.length:Int):=by omega
            have dr:decide (r<R1.ran.length)=true:=decide_eq_true hrl;obtain ⟨rg,ro,rcapX,_,_,h5,_⟩:=Sat.nums_form (show Sat w0 wr (numsP .u64 (.slice ra2 R1.ran.length rc2) R1.ran*any) from own_left);have h5:=h5 (by rintro e5;rw [e5] at hrl;simp at hrl);simp only [Value.slice.injEq,true_and] at h5;obtain ⟨rfl,rfl⟩:=h5;obtain ⟨xr,hxr⟩:∃ xr,xr=R1.ran.getD r 0:=⟨_,rfl⟩;haveI:Cell (numsP .u64 (.slice (some ⟨rg,ro,none⟩) R1.ran.length rc2) R1.ran) rg (ro+r) (.int .u64 xr):=hxr ▸ inferInstance;obtain ⟨zr,hzr⟩:∃ zr,zr=w64 (xr+1):=⟨_,rfl⟩;have ur:IntKind.u64.wrap (xr+1)=zr:=by rw [IntKind.wrap_u64,hzr]
            have Hzr:=hid (show zr=w64 (ig R1.ran r+1) by rw [hzr,hxr];rfl);clear hzr hxr;have hlL:r<Lh.length:=by omega
            haveI:Lt r Lh.length:=⟨hlL⟩;have iL:(r:Int)<(Lh.length:Int):=by omega
            have dL:decide (r<Lh.length)=true:=decide_eq_true hlL;obtain ⟨hg9,ho9,hcapX,_,_,h6,_⟩:=Sat.nums_form (show Sat w0 wr (numsP .i64 (.slice ha Lh.length hc) Lh*any) from own_left);have h6:=h6 (by rintro e5;rw [e5] at hlL;simp at hlL);simp only [Value.slice.injEq,true_and] at h6;obtain ⟨rfl,rfl⟩:=h6;obtain ⟨fx,hfx⟩:∃ fx,fx=Lh.getD r 0:=⟨_,rfl⟩;haveI:Cell (numsP .i64 (.slice (some ⟨hg9,ho9,none⟩) Lh.length hc) Lh) hg9 (ho9+r) (.int .i64 fx):=hfx ▸ inferInstance;have hLr:fx=fidx (opI R.sc r):=by
             rw [hfx];rw [hLh.out,List.getD_eq_getElem?_getD,List.getElem?_map,List.getElem?_range hrn2];rfl
            obtain ⟨cg,co,rfl,_,_⟩:=HT.out wr _ hs5 r hrn2;obtain ⟨vr,hvr⟩:∃ vr,vr=lvC c r:=⟨_,rfl⟩;have Hvr:=hid hvr;have HVr:=hid (fun (w:World) (G:HP) (h:Sat w0 w G)=>(show w.cell? ⟨cg,co+r*6,none⟩=some (.int .i64 vr) from by
             obtain ⟨g2,o2,e2,h2,_⟩:=HT.out w G h r hrn2;simp only [Option.some.injEq,Addr.mk.injEq] at e2;obtain ⟨rfl,rfl,_⟩:=e2;rw [hvr];exact h2))
            have irc:(r:Int)<(c.ts.length:Int):=by omega
            have drc:decide (r<c.ts.length)=true:=decide_eq_true hrn2;clear hvr;clear hfx
            go_upto_if 143 with fail
            refine wp_gen (w0:=w0) ?_;intro wq hsq;clear hs5;have hs6:Sat w0 wq ((pts gb 0 [.slice ja R1.jb.length jc,.slice (some ⟨rg,ro,none⟩) R1.ran.length rc2,.slice ka2 R1.tak.length kc2,.slice ea R1.sc.length ec]*(recsP (.slice ja R1.jb.length jc) R1.jb*(numsP .u64 (.slice (some ⟨rg,ro,none⟩) R1.ran.length rc2) (R1.ran.set r zr)*(numsP .i64 (.slice ka2 R1.tak.length kc2) R1.tak*(recsP (.slice ea R1.sc.length ec) R1.sc*((pts cb 0 [.slice (some ⟨cg,co,none⟩) c.ts.length tc,.slice la c.ls.length lc,.int .i64 c.mutexes,.slice sa c.sems.length sc,.slice qa c.queues.length qc,.slice ma c.timers.length mc,.int .i64 c.table,.int .u32 c.mask,.int .u32 c.filter,.int .i64 c.charge,.int .u64 c.cycle,.int .u64 c.count])*(rfP pb A1*(numsP .i64 (.slice (some ⟨hg9,ho9,none⟩) Lh.length hc) Lh*(F*any)))))))))):=by
             refine Sat.perm (rfP_of (b:=pb) (A:=A1) (F:=(pts gb 0 [.slice ja R1.jb.length jc,.slice (some ⟨rg,ro,none⟩) R1.ran.length rc2,.slice ka2 R1.tak.length kc2,.slice ea R1.sc.length ec]*(recsP (.slice ja R1.jb.length jc) R1.jb*(numsP .u64 (.slice (some ⟨rg,ro,none⟩) R1.ran.length rc2) (R1.ran.set r zr)*(numsP .i64 (.slice ka2 R1.tak.length kc2) R1.tak*(recsP (.slice ea R1.sc.length ec) R1.sc*((pts cb 0 [.slice (some ⟨cg,co,none⟩) c.ts.length tc,.slice la c.ls.length lc,.int .i64 c.mutexes,.slice sa c.sems.length sc,.slice qa c.queues.length qc,.slice ma c.timers.length mc,.int .i64 c.table,.int .u32 c.mask,.int .u32 c.filter,.int .i64 c.charge,.int .u64 c.cycle,.int .u64 c.count])*(numsP .i64 (.slice (some ⟨hg9,ho9,none⟩) Lh.length hc) Lh*(F*any))))))))) (v:=.slice (some ⟨tg1,tq1,none⟩) 64 cap1) ?_) (by ac_rfl);rw [hrn];exact own_left
            clear hsq
            go_cut [14] (fun _ wx=>∃ SC:List Sec,SC.length=R1.sc.length∧Hid (RS={ R1 with ran:=R1.ran.set r zr,sc:=SC,jb:=R1.jb.map (loF c r) })∧Sat w0 wx (pts gb 0 [.slice ja R1.jb.length jc,.slice (some ⟨rg,ro,none⟩) R1.ran.length rc2,.slice ka2 R1.tak.length kc2,.slice ea R1.sc.length ec]*(recsP (.slice ja R1.jb.length jc) R1.jb*(numsP .u64 (.slice (some ⟨rg,ro,none⟩) R1.ran.length rc2) (R1.ran.set r zr)*(numsP .i64 (.slice ka2 R1.tak.length kc2) R1.tak*(recsP (.slice ea R1.sc.length ec) SC*((pts cb 0 [.slice (some ⟨cg,co,none⟩) c.ts.length tc,.slice la c.ls.length lc,.int .i64 c.mutexes,.slice sa c.sems.length sc,.slice qa c.queues.length qc,.slice ma c.timers.length mc,.int .i64 c.table,.int .u32 c.mask,.int .u32 c.filter,.int .i64 c.charge,.int .u64 c.cycle,.int .u64 c.count])*(rfP pb A1*(F*any)))))))))
            case first =>
             as_aux_lemma =>
             cases hop:opI R.sc r with
             | none =>
              have hx:=hid (show RS={ R1 with ran:=R1.ran.set r zr,sc:=R1.sc,jb:=R1.jb.map (loF c r) } by rw [hRS2.out,hop,Hzr.out];rfl);rw [hop] at hLr;have dfx:decide (0≤fx)=false:=by rw [hLr];rfl
              clear hLr hop hRS2;go_wp2_with fail
              go_meet
              exact ⟨R1.sc,rfl,hx,own_left⟩
             | some i =>
              have hi1:i<R1.sc.length:=Nat.lt_of_lt_of_le (fst_of hop).1 HSC.out;obtain ⟨zn,hzn⟩:∃ zn,zn=w64 ((scg R1.sc i).n+1):=⟨_,rfl⟩;have hx:=hid (show RS={ R1 with ran:=R1.ran.set r zr,sc:=R1.sc.set i { scg R1.sc i with n:=zn },jb:=R1.jb.map (loF c r) } by rw [hRS2.out,hop,Hzr.out,hzn];rfl);rw [hop] at hLr;obtain rfl:fx=(i:Int):=hLr;have dfx:decide (0≤(i:Int))=true:=by simp
              clear hop hRS2;haveI:Lt i R1.sc.length:=⟨hi1⟩;have ii:(i:Int)<(R1.sc.length:Int):=by omega
              have di:decide (i<R1.sc.length)=true:=decide_eq_true hi1;obtain ⟨eg9,eo9,rfl⟩:=recs_at (hs6.pull (Q:=recsP (.slice ea R1.sc.length ec) R1.sc)) (by omega);have un:IntKind.u64.wrap ((scg R1.sc i).n+1)=zn:=by rw [IntKind.wrap_u64,hzn]
              clear hzn;go_wp2_with fail;refine wp_gen (w0:=w0) ?_;intro wq hsq;clear hs6;refine wp_region_till (fun w'=>Sat w0 w' (pts gb 0 [.slice ja R1.jb.length jc,.slice (some ⟨rg,ro,none⟩) R1.ran.length rc2,.slice ka2 R1.tak.length kc2,.slice (some ⟨eg9,eo9,none⟩) R1.sc.length ec]*(recsP (.slice (some ⟨eg9,eo9,none⟩) R1.sc.length ec) R1.sc*(numsP .i64 (.slice (some ⟨hg9,ho9,none⟩) Lh.length hc) Lh*any)))) 14 [(0,0),(1,0),(2,0),(3,1),(4,0),(5,0),(6,0),(7,1),(8,0),(9,0),(10,1),(11,0),(12,0),(13,0),(14,2)] (by kernel_rfl) (by kernel_rfl) (fun _ _ _ _ h=>h) own_left ?_
              iterate 14 (first | refine plan_pS ?_ | refine plan_rS ?_ | refine plan_pN ?_ | refine plan_rN ?_)
              refine plan_G rfl (by rfl) (fun K hK=>?_);go_wp2_with fail;refine ⟨fun h=>absurd rfl h,plan_done ?_⟩;go_wp2_with fail
              go_meet
              exact ⟨_,List.length_set,hx,own_left⟩
            case rest =>
             as_aux_lemma =>
             obtain ⟨SC,hSC,hRS3,hs6⟩:=hcut;go_wp2_with fail;refine wp_gen (w0:=w0) ?_;intro wz hsz;clear hs6
             go_loopw [14] (fun iv wr=>∃ (q:Nat) (J:List Jb),q≤R1.jb.length∧iv=.int .i64 q∧Hid (J=(R1.jb.take q).map (loF c r)++R1.jb.drop q)∧Sat w0 wr (pts gb 0 [.slice ja R1.jb.length jc,.slice (some ⟨rg,ro,none⟩) R1.ran.length rc2,.slice ka2 R1.tak.length kc2,.slice ea R1.sc.length ec]*(recsP (.slice ja R1.jb.length jc) J*(numsP .u64 (.slice (some ⟨rg,ro,none⟩) R1.ran.length rc2) (R1.ran.set r zr)*(numsP .i64 (.slice ka2 R1.tak.length kc2) R1.tak*(recsP (.slice ea R1.sc.length ec) SC*((pts cb 0 [.slice (some ⟨cg,co,none⟩) c.ts.length tc,.slice la c.ls.length lc,.int .i64 c.mutexes,.slice sa c.sems.length sc,.slice qa c.queues.length qc,.slice ma c.timers.length mc,.int .i64 c.table,.int .u32 c.mask,.int .u32 c.filter,.int .i64 c.charge,.int .u64 c.cycle,.int .u64 c.count])*(rfP pb A1*(F*any))))))))) (fun iv _=>R1.jb.length-(intOf iv).toNat)
             case atStart=>exact ⟨0,R1.jb,Nat.zero_le _,rfl,rfl,own_left⟩
             case round =>
              obtain ⟨q,J,hq,rfl,hJ,hsr⟩:=hrel;clear hsz
              by_cases hlt:q<R1.jb.length
              ·have d1:decide (q<R1.jb.length)=true:=decide_eq_true hlt;have i1:(q:Int)<(R1.jb.length:Int):=by omega
               have hlJ:J.length=R1.jb.length:=by rw [hJ.out];simp;omega
               haveI:Lt q J.length:=⟨by omega⟩;obtain ⟨jg0,jo,rfl⟩:=recs_at (hsr.pull (Q:=recsP (.slice ja R1.jb.length jc) J)) (by omega);have hat:jg J q=jg R1.jb q:=by rw [hJ.out];exact jg_mid hlt
               have hnx5:=hid (show J.set q (loF c r (jg J q))=(R1.jb.take (q+1)).map (loF c r)++R1.jb.drop (q+1) by rw [hat,hJ.out];exact unF_next (loF c r) hlt);have htk:=HM.out.2.2.2 _ (jg_mem hlt);have hself:=hid (show J.set q (jg J q)=J from jg_self (by omega));rw [← hat] at htk;obtain ⟨x,hx⟩:∃ x,x=jg J q:=⟨_,rfl⟩;rw [← hx] at htk hnx5 hself;haveI:El J q x:=⟨hx.symm⟩;clear hJ hat hx hlJ;obtain ⟨tk9,num,rel,fi,ended,missed,lower,bound,tidy⟩:=x;dsimp only at htk;obtain ⟨tn,rfl⟩:∃ tn:Nat,tk9=tn:=⟨tk9.toNat,by omega⟩;have htn:tn<c.ts.length:=by omega
               have itn:(tn:Int)<(c.ts.length:Int):=by omega
               have dtn:decide (tn<c.ts.length)=true:=decide_eq_true htn;have HV:=hid (fun (w:World) (G:HP) (h:Sat w0 w G)=>(show w.cell? ⟨cg,co+tn*6,none⟩=some (.int .i64 (lvC c tn)) from by
                obtain ⟨g2,o2,e2,h2,_⟩:=HT.out w G h tn htn;simp only [Option.some.injEq,Addr.mk.injEq] at e2;obtain ⟨rfl,rfl,_⟩:=e2;exact h2))
               have hlo:=hid (show loF c r ⟨(tn:Int),num,rel,fi,ended,missed,lower,bound,tidy⟩=if ended=false∧lvC c tn<lvC c r then ⟨(tn:Int),num,rel,fi,ended,missed,w64 (lower+1),bound,tidy⟩ else ⟨(tn:Int),num,rel,fi,ended,missed,lower,bound,tidy⟩ from by unfold loF;dsimp only;rw [Int.toNat_natCast]);obtain ⟨vt,hvt⟩:∃ vt,vt=lvC c tn:=⟨_,rfl⟩;rw [← hvt] at HV hlo;rw [← Hvr.out] at hlo;have hj7:=HJ1.out.1;obtain ⟨zc,hzc⟩:∃ zc:Bool,zc=(!ended && decide (vt<vr)):=⟨_,rfl⟩;have hn2:=hid (show (R1.jb.take (q+1)).map (loF c r)++R1.jb.drop (q+1)=if zc=true then J.set q ⟨(tn:Int),num,rel,fi,ended,missed,w64 (lower+1),bound,tidy⟩ else J by
                rw [← hnx5.out,hlo.out,hzc]
                cases ended<;>by_cases q9:vt<vr<;>simp [q9,hself.out])
               have Hzc:=hid hzc;clear hvt htk hnx5 hlo hself hzc
               go_upto_region 33 with fail
               go_cut [197] (fun bv wx=>bv=.bool zc∧Sat w0 wx (pts gb 0 [.slice (some ⟨jg0,jo,none⟩) R1.jb.length jc,.slice (some ⟨rg,ro,none⟩) R1.ran.length rc2,.slice ka2 R1.tak.length kc2,.slice ea R1.sc.length ec]*(recsP (.slice (some ⟨jg0,jo,none⟩) R1.jb.length jc) J*(numsP .u64 (.slice (some ⟨rg,ro,none⟩) R1.ran.length rc2) (R1.ran.set r zr)*(numsP .i64 (.slice ka2 R1.tak.length kc2) R1.tak*(recsP (.slice ea R1.sc.length ec) SC*((pts cb 0 [.slice (some ⟨cg,co,none⟩) c.ts.length tc,.slice la c.ls.length lc,.int .i64 c.mutexes,.slice sa c.sems.length sc,.slice qa c.queues.length qc,.slice ma c.timers.length mc,.int .i64 c.table,.int .u32 c.mask,.int .u32 c.filter,.int .i64 c.charge,.int .u64 c.cycle,.int .u64 c.count])*(rfP pb A1*(F*any)))))))))
               case first =>
                as_aux_lemma =>
                go_wp2_with fail;refine wp_gen (w0:=w0) ?_;intro wt hst;clear hsr
                cases ended with
                | true =>
                 obtain rfl:zc=false:=Hzc.out;refine wp_region_early (fun w'=>Sat w0 w' (pts gb 0 [.slice (some ⟨jg0,jo,none⟩) R1.jb.length jc,.slice (some ⟨rg,ro,none⟩) R1.ran.length rc2,.slice ka2 R1.tak.length kc2,.slice ea R1.sc.length ec]*(recsP (.slice (some ⟨jg0,jo,none⟩) R1.jb.length jc) J*(numsP .u64 (.slice (some ⟨rg,ro,none⟩) R1.ran.length rc2) (R1.ran.set r zr)*(numsP .i64 (.slice ka2 R1.tak.length kc2) R1.tak*(recsP (.slice ea R1.sc.length ec) SC*((pts cb 0 [.slice (some ⟨cg,co,none⟩) c.ts.length tc,.slice la c.ls.length lc,.int .i64 c.mutexes,.slice sa c.sems.length sc,.slice qa c.queues.length qc,.slice ma c.timers.length mc,.int .i64 c.table,.int .u32 c.mask,.int .u32 c.filter,.int .i64 c.charge,.int .u64 c.cycle,.int .u64 c.count])*any))))))) [(0,true),(1,true),(2,true),(3,true),(4,true),(5,true),(6,true),(7,true),(8,true),(9,true),(10,true),(11,true),(12,true),(13,true),(14,true),(15,true),(16,true),(17,true),(18,true),(19,true),(20,true),(21,true),(22,true),(23,true),(24,true),(25,true),(26,true),(27,true),(28,true),(29,true),(30,true)] (by kernel_rfl) (by kernel_rfl) (fun _ _ _ _ h=>h) own_left ?_
                 iterate 31 (first | refine early_S ?_ | refine early_N ?_)
                 refine early_done ?_;go_wp2_with fail
                 go_meet
                 exact ⟨rfl,own_left⟩
                | false =>
                 have dlv:decide (vt<vr)=zc:=Hzc.out.symm;refine wp_region_early (fun w'=>Sat w0 w' (pts gb 0 [.slice (some ⟨jg0,jo,none⟩) R1.jb.length jc,.slice (some ⟨rg,ro,none⟩) R1.ran.length rc2,.slice ka2 R1.tak.length kc2,.slice ea R1.sc.length ec]*(recsP (.slice (some ⟨jg0,jo,none⟩) R1.jb.length jc) J*(numsP .u64 (.slice (some ⟨rg,ro,none⟩) R1.ran.length rc2) (R1.ran.set r zr)*(numsP .i64 (.slice ka2 R1.tak.length kc2) R1.tak*(recsP (.slice ea R1.sc.length ec) SC*((pts cb 0 [.slice (some ⟨cg,co,none⟩) c.ts.length tc,.slice la c.ls.length lc,.int .i64 c.mutexes,.slice sa c.sems.length sc,.slice qa c.queues.length qc,.slice ma c.timers.length mc,.int .i64 c.table,.int .u32 c.mask,.int .u32 c.filter,.int .i64 c.charge,.int .u64 c.cycle,.int .u64 c.count])*any))))))) [(0,true),(1,true),(2,true),(3,true),(4,true),(5,true),(6,true),(7,true),(8,true),(9,true),(10,true),(11,true),(12,true),(13,true),(14,true),(15,true),(16,true),(17,true),(18,true),(19,true),(20,true),(21,true),(22,true),(23,true),(24,true),(25,true),(26,true),(27,true),(28,true),(29,true),(30,true)] (by kernel_rfl) (by kernel_rfl) (fun _ _ _ _ h=>h) own_left ?_
                 iterate 15 (first | refine early_S ?_ | refine early_N ?_)
                 refine early_T rfl (by rfl) ⟨.int .i64 (vr),fun w hSw=>?_,?_⟩
                 ·have h0:=HVr.out w _ hSw
                  go_simp
                  try with_reducible rfl
                 simp only [Act.put,zqA,zqP,zqQ]
                 iterate 12 (first | refine early_S ?_ | refine early_N ?_)
                 refine early_T rfl (by rfl) ⟨.int .i64 (vt),fun w hSw=>?_,?_⟩
                 ·have h0:=HV.out w _ hSw
                  go_simp
                  try with_reducible rfl
                 simp only [Act.put,zqA,zqP,zqQ]
                 iterate 2 (first | refine early_S ?_ | refine early_N ?_)
                 refine early_done ?_;go_wp2_with fail
                 go_meet
                 exact ⟨rfl,own_left⟩
               case rest =>
                as_aux_lemma =>
                obtain ⟨rfl,hs9⟩:=hcut;clear hsr Hzc;obtain ⟨zl9,hzl9⟩:∃ z,z=w64 (lower+1):=⟨_,rfl⟩;have u5:IntKind.u64.wrap (lower+1)=zl9:=by rw [IntKind.wrap_u64,hzl9]
                rw [← hzl9] at hn2;clear hzl9
                cases zc
                case false =>
                 go_wp2_with fail;go_roundw
                 case rel=>exact ⟨q+1,J,by omega,by go_num,hid (hn2.out.trans (if_neg (by decide))).symm,own_left⟩
                 case measure=>simp [intOf];omega
                case true =>
                 go_wp2_with fail;go_roundw
                 case rel=>exact ⟨q+1,_,by omega,by go_num,hid (hn2.out.trans (if_pos rfl)).symm,own_left⟩
                 case measure=>simp [intOf];omega
              ·have d1:decide (q<R1.jb.length)=false:=decide_eq_false hlt;obtain rfl:q=R1.jb.length:=by omega
               have hJ2:=hid (show J=R1.jb.map (loF c r) by rw [hJ.out,List.take_length,List.drop_length,List.append_nil]);clear hJ hlt;go_wp2_with fail
               go_meet
               refine Sat.perm (rb_in (g:=gb) (R:=RS) (F:=rfP pb A1*((pts cb 0 [.slice (some ⟨cg,co,none⟩) c.ts.length tc,.slice la c.ls.length lc,.int .i64 c.mutexes,.slice sa c.sems.length sc,.slice qa c.queues.length qc,.slice ma c.timers.length mc,.int .i64 c.table,.int .u32 c.mask,.int .u32 c.filter,.int .i64 c.charge,.int .u64 c.cycle,.int .u64 c.count])*(F*any))) (ja:=ja) (jc:=jc) (ra:=some ⟨rg,ro,none⟩) (rc:=rc2) (ka:=ka2) (kc:=kc2) (ea:=ea) (ec:=ec) J (R1.ran.set r zr) R1.tak SC (by rw [hRS3.out,hJ2.out]) (by rw [hRS3.out]) (by rw [hRS3.out]) (by rw [hRS3.out]) ?_) (by ac_rfl);rw [show J.length=R1.jb.length by rw [hJ2.out,List.length_map],List.length_set,hSC];exact own_left
          case rest =>
           as_aux_lemma =>
           have hs0:=hcut
           by_cases hsl3:s=last
           ·have e35:(s==last)=true:=by simp [hsl3]
            have Hf:=hid (hfn.out (by rw [← HL.out];exact hsl3));have hf1:RS.jb.length≤600:=by omega
            have hf2:RS.sc.length≤600:=by omega
            clear hnx hfn hsl3;go_wp2_with fail
            go_meet
            exact ⟨A1,RS,hf1,hf2,Hf,own_left⟩
           ·have e35:(s==last)=false:=by simp [hsl3]
            obtain ⟨B',hB'⟩:=hnx.out (by rw [← HL.out];exact hsl3);have HB':=hid hB';have hplt:p<l.length:=hB'.lt;have hs1:s+1≤last:=by omega
            have hlast64:last<18446744073709551616:=by rw [HL.out];exact (HS.out.lo _ (by omega)).2
            have u35:IntKind.u64.wrap (s+1)=s+1:=by rw [IntKind.wrap_u64];omega
            clear hnx hfn hB' hsl3;go_wp2_with fail;go_roundw
            case rel=>exact ⟨p,s+1,A1,B',RS,rfl,rfl,HB',hl1,hl2,hse1,hplt,hs1,by omega,own_left⟩
            case measure=>simp [intOf];omega
    case rest =>
     as_aux_lemma =>
     obtain ⟨A1,RS,hj7,hs7,Hf,hsF⟩:=hcut;clear hst0 HR0;go_wp2_with fail;refine wp_gen (w0:=w0) ?_;intro wf hsf;clear hsF;have hsF:Sat w0 wf ((pts cb 0 [.slice ta c.ts.length tc,.slice la c.ls.length lc,.int .i64 c.mutexes,.slice sa c.sems.length sc,.slice qa c.queues.length qc,.slice ma c.timers.length mc,.int .i64 c.table,.int .u32 c.mask,.int .u32 c.filter,.int .i64 c.charge,.int .u64 c.cycle,.int .u64 c.count])*(rbP gb RS*(F*any))):=own_left;clear hsf;obtain ⟨ja,jc,ra3,rc3,ka3,kc3,ea3,ec3,hsF2⟩:=rb_out (hsF.pull (Q:=rbP gb RS));clear hsF;have HLC:=hid (show lastCo l=last by rw [lastCo_at hlp,HL.out]);have HTK:=hid (Hf.out.1.task Hf.out.2.bk)
     go_loopw [15] (fun iv wr=>∃ (q:Nat) (J:List Jb),q≤RS.jb.length∧iv=.int .i64 q∧Hid (J=(RS.jb.take q).map (finR (lvC c) (dlC c) c.ts.length RS.sc (lastCo l))++RS.jb.drop q)∧Sat w0 wr (pts gb 0 [.slice ja RS.jb.length jc,.slice ra3 RS.ran.length rc3,.slice ka3 RS.tak.length kc3,.slice ea3 RS.sc.length ec3]*(recsP (.slice ja RS.jb.length jc) J*(numsP .u64 (.slice ra3 RS.ran.length rc3) RS.ran*(numsP .i64 (.slice ka3 RS.tak.length kc3) RS.tak*(recsP (.slice ea3 RS.sc.length ec3) RS.sc*((pts cb 0 [.slice ta c.ts.length tc,.slice la c.ls.length lc,.int .i64 c.mutexes,.slice sa c.sems.length sc,.slice qa c.queues.length qc,.slice ma c.timers.length mc,.int .i64 c.table,.int .u32 c.mask,.int .u32 c.filter,.int .i64 c.charge,.int .u64 c.cycle,.int .u64 c.count])*(F*any)))))))) (fun iv _=>RS.jb.length-(intOf iv).toNat)
     case atStart=>exact ⟨0,RS.jb,Nat.zero_le _,rfl,rfl,own_left⟩
     case round =>
      obtain ⟨q,J,hq,rfl,hJ,hsr⟩:=hrel;clear hsF2
      by_cases hlt:q<RS.jb.length
      ·have d1:decide (q<RS.jb.length)=true:=decide_eq_true hlt;have i1:(q:Int)<(RS.jb.length:Int):=by omega
       have hlJ:J.length=RS.jb.length:=by rw [hJ.out];simp;omega
       haveI:Lt q J.length:=⟨by omega⟩;obtain ⟨jg0,jo,rfl⟩:=recs_at (hsr.pull (Q:=recsP (.slice ja RS.jb.length jc) J)) (by omega);have hat:jg J q=jg RS.jb q:=by rw [hJ.out];exact jg_mid hlt
       have hnx:=hid (show J.set q (finR (lvC c) (dlC c) c.ts.length RS.sc (lastCo l) (jg J q))=(RS.jb.take (q+1)).map (finR (lvC c) (dlC c) c.ts.length RS.sc (lastCo l))++RS.jb.drop (q+1) by rw [hat,hJ.out];exact unF_next (finR (lvC c) (dlC c) c.ts.length RS.sc (lastCo l)) hlt);have htk:=HTK.out _ (jg_mem hlt);have hself:=hid (show J.set q (jg J q)=J from jg_self (by omega));rw [← hat] at htk;obtain ⟨x,hx⟩:∃ x,x=jg J q:=⟨_,rfl⟩;rw [← hx] at htk hnx hself;haveI:El J q x:=⟨hx.symm⟩;clear hJ hat hx;have hlJ9:=hid (show q<J.length by omega);clear hlJ;obtain ⟨tk9,num,rel,fi,ended,missed,lower,bound,tidy⟩:=x;dsimp only at htk;obtain ⟨tn,rfl⟩:∃ tn:Nat,tk9=tn:=⟨tk9.toNat,by omega⟩;have htn:tn<c.ts.length:=by omega
       have itn:(tn:Int)<(c.ts.length:Int):=by omega
       have dtn:decide (tn<c.ts.length)=true:=decide_eq_true htn;clear htk;obtain ⟨cg,co,rfl,_,_⟩:=HT.out wr _ hsr tn htn;have HVn:=hid (fun (w:World) (G:HP) (h:Sat w0 w G)=>(show w.cell? ⟨cg,co+tn*6,none⟩=some (.int .i64 (lvC c tn)) from by
        obtain ⟨g2,o2,e2,h2,h3⟩:=HT.out w G h tn htn;simp only [Option.some.injEq,Addr.mk.injEq] at e2;obtain ⟨rfl,rfl,_⟩:=e2;exact h2))
       have HDn:=hid (fun (w:World) (G:HP) (h:Sat w0 w G)=>(show w.cell? ⟨cg,co+tn*6+3,none⟩=some (.int .i64 (dlC c tn)) from by
        obtain ⟨g2,o2,e2,h2,h3⟩:=HT.out w G h tn htn;simp only [Option.some.injEq,Addr.mk.injEq] at e2;obtain ⟨rfl,rfl,_⟩:=e2;exact h3))
       have hdr:0≤dlC c tn∧dlC c tn≤1000000000000:=by
        have q9:=HG.out.dl (c.ts.getD tn tc0) (by rw [List.getD_eq_getElem?_getD,List.getElem?_eq_getElem htn];exact List.getElem_mem htn);have e9:dlC c tn=(c.ts.getD tn tc0).dl:=by
         unfold dlC sg tks0;rw [List.getD_eq_getElem?_getD,List.getElem?_map,List.getElem?_eq_getElem htn,List.getD_eq_getElem?_getD,List.getElem?_eq_getElem htn];rfl
        rw [e9];exact q9
       obtain ⟨dn,hdn⟩:∃ dn,dn=dlC c tn:=⟨_,rfl⟩;obtain ⟨vn,hvn⟩:∃ vn,vn=lvC c tn:=⟨_,rfl⟩;rw [← hdn] at HDn hdr;rw [← hvn] at HVn;have Hdn:=hid hdn.symm;have Hvn:=hid hvn;have ud:IntKind.u64.wrap dn=dn:=by rw [IntKind.wrap_u64];omega
       clear hdn hvn;obtain ⟨td,htd⟩:∃ td:Bool,td=(ended && tidy):=⟨_,rfl⟩;obtain ⟨en9,hen⟩:∃ en9:Int,en9=if ended=true then fi else last:=⟨_,rfl⟩;obtain ⟨z9,hz9⟩:∃ z9,z9=w64 (en9-rel):=⟨_,rfl⟩;obtain ⟨ms,hmv⟩:∃ ms:Bool,ms=(decide (0<dn) && decide (dn<z9)):=⟨_,rfl⟩;have hfx:=hid (show finR (lvC c) (dlC c) c.ts.length RS.sc (lastCo l) ⟨(tn:Int),num,rel,fi,ended,missed,lower,bound,tidy⟩=⟨(tn:Int),num,rel,fi,ended,ms,lower,bndR (lvC c) RS.sc (lvC c tn) c.ts.length bound,td⟩ from by
        unfold finR;dsimp only;rw [Int.toNat_natCast,Hdn.out,HLC.out,hmv,hz9,hen,htd])
       have uz:IntKind.u64.wrap (en9-rel)=z9:=by rw [IntKind.wrap_u64];exact hz9.symm
       have hsf:Hid (ended=true→J.set q ⟨(tn:Int),num,rel,fi,ended,missed,lower,bound,td⟩=J):=fun e=>by
        have h9:=hself.out;rw [htd,e] at *;exact h9
       have Htd:=hid htd;have Hen:=hid hen;have Hmv:=hid hmv;clear hself htd hen hmv hz9
       go_upto_region 40 with fail
       refine wp_gen (w0:=w0) ?_;intro wt hst;clear hsr;refine wp_region_early (fun w'=>Sat w0 w' (pts gb 0 [.slice (some ⟨jg0,jo,none⟩) RS.jb.length jc,.slice ra3 RS.ran.length rc3,.slice ka3 RS.tak.length kc3,.slice ea3 RS.sc.length ec3]*(recsP (.slice (some ⟨jg0,jo,none⟩) RS.jb.length jc) J*(numsP .u64 (.slice ra3 RS.ran.length rc3) RS.ran*(numsP .i64 (.slice ka3 RS.tak.length kc3) RS.tak*(recsP (.slice ea3 RS.sc.length ec3) RS.sc*((pts cb 0 [.slice (some ⟨cg,co,none⟩) c.ts.length tc,.slice la c.ls.length lc,.int .i64 c.mutexes,.slice sa c.sems.length sc,.slice qa c.queues.length qc,.slice ma c.timers.length mc,.int .i64 c.table,.int .u32 c.mask,.int .u32 c.filter,.int .i64 c.charge,.int .u64 c.cycle,.int .u64 c.count])*(F*any)))))))) [(0,true),(1,true),(2,true),(3,true),(4,true),(5,true),(6,true),(7,true),(8,true),(9,true),(10,true)] (by kernel_rfl) (by kernel_rfl) (fun _ _ _ _ h=>h) own_left ?_
       iterate 8 (first | refine early_S ?_ | refine early_N ?_)
       refine early_T rfl (by rfl) ⟨.int .i64 (dn),fun w hSw=>?_,?_⟩
       ·have h0:=HDn.out w _ hSw
        go_simp
        try with_reducible rfl
       simp only [Act.put,zqA,zqP,zqQ]
       iterate 2 (first | refine early_S ?_ | refine early_N ?_)
       refine early_done ?_
       go_upto_if 245 with fail
       refine wp_gen (w0:=w0) ?_;intro wt2 hst2;clear hst
       go_cut [18] (fun ev wx=>ev=.int .u64 en9∧Sat w0 wx (pts gb 0 [.slice (some ⟨jg0,jo,none⟩) RS.jb.length jc,.slice ra3 RS.ran.length rc3,.slice ka3 RS.tak.length kc3,.slice ea3 RS.sc.length ec3]*(recsP (.slice (some ⟨jg0,jo,none⟩) RS.jb.length jc) (J.set q ⟨(tn:Int),num,rel,fi,ended,missed,lower,bound,td⟩)*(numsP .u64 (.slice ra3 RS.ran.length rc3) RS.ran*(numsP .i64 (.slice ka3 RS.tak.length kc3) RS.tak*(recsP (.slice ea3 RS.sc.length ec3) RS.sc*((pts cb 0 [.slice (some ⟨cg,co,none⟩) c.ts.length tc,.slice la c.ls.length lc,.int .i64 c.mutexes,.slice sa c.sems.length sc,.slice qa c.queues.length qc,.slice ma c.timers.length mc,.int .i64 c.table,.int .u32 c.mask,.int .u32 c.filter,.int .i64 c.charge,.int .u64 c.cycle,.int .u64 c.count])*(F*any))))))))
       case first =>
        as_aux_lemma =>
        cases ended with
        | true =>
         obtain rfl:en9=fi:=Hen.out;go_wp2_with fail
         go_meet
         exact ⟨rfl,by rw [hsf.out (by simp)];exact own_left⟩
        | false =>
         obtain rfl:en9=last:=Hen.out;obtain rfl:td=false:=Htd.out;go_wp2_with fail
         go_meet
         exact ⟨rfl,own_left⟩
       case rest =>
        as_aux_lemma =>
        obtain ⟨rfl,hs6⟩:=hcut;haveI:Lt q (J.set q ⟨(tn:Int),num,rel,fi,ended,missed,lower,bound,td⟩).length:=⟨by rw [List.length_set];exact hlJ9.out⟩;clear hst2 Hen Htd hsf
        go_upto_region 45 with fail
        go_cut [250] (fun _ wx=>Sat w0 wx (pts gb 0 [.slice (some ⟨jg0,jo,none⟩) RS.jb.length jc,.slice ra3 RS.ran.length rc3,.slice ka3 RS.tak.length kc3,.slice ea3 RS.sc.length ec3]*(recsP (.slice (some ⟨jg0,jo,none⟩) RS.jb.length jc) (J.set q ⟨(tn:Int),num,rel,fi,ended,ms,lower,bound,td⟩)*(numsP .u64 (.slice ra3 RS.ran.length rc3) RS.ran*(numsP .i64 (.slice ka3 RS.tak.length kc3) RS.tak*(recsP (.slice ea3 RS.sc.length ec3) RS.sc*((pts cb 0 [.slice (some ⟨cg,co,none⟩) c.ts.length tc,.slice la c.ls.length lc,.int .i64 c.mutexes,.slice sa c.sems.length sc,.slice qa c.queues.length qc,.slice ma c.timers.length mc,.int .i64 c.table,.int .u32 c.mask,.int .u32 c.filter,.int .i64 c.charge,.int .u64 c.cycle,.int .u64 c.count])*(F*any))))))))
        case first =>
         as_aux_lemma =>
         by_cases hd0:0<dn
         ·have e0d:decide (0<dn)=true:=decide_eq_true hd0;have e9d:decide (dn<z9)=ms:=by rw [Hmv.out,e0d];rfl
          clear hd0;go_wp2_with fail
          go_meet
          exact own_left
         ·have e0d:decide (0<dn)=false:=decide_eq_false hd0;obtain rfl:ms=false:=by rw [Hmv.out,e0d];rfl
          clear hd0;go_wp2_with fail
          go_meet
          exact own_left
        case rest =>
         as_aux_lemma =>
         have hst:=hcut;clear hs6 Hmv uz;go_wp2_with fail;refine wp_gen (w0:=w0) ?_;intro wi hsi;clear hst
         go_loopw [268] (fun iv wr=>∃ (t:Nat) (y:Int),t≤c.ts.length∧iv=.int .i64 t∧Hid (y=bndR (lvC c) RS.sc (lvC c tn) t bound)∧Sat w0 wr (pts gb 0 [.slice (some ⟨jg0,jo,none⟩) RS.jb.length jc,.slice ra3 RS.ran.length rc3,.slice ka3 RS.tak.length kc3,.slice ea3 RS.sc.length ec3]*(recsP (.slice (some ⟨jg0,jo,none⟩) RS.jb.length jc) (J.set q ⟨(tn:Int),num,rel,fi,ended,ms,lower,y,td⟩)*(numsP .u64 (.slice ra3 RS.ran.length rc3) RS.ran*(numsP .i64 (.slice ka3 RS.tak.length kc3) RS.tak*(recsP (.slice ea3 RS.sc.length ec3) RS.sc*((pts cb 0 [.slice (some ⟨cg,co,none⟩) c.ts.length tc,.slice la c.ls.length lc,.int .i64 c.mutexes,.slice sa c.sems.length sc,.slice qa c.queues.length qc,.slice ma c.timers.length mc,.int .i64 c.table,.int .u32 c.mask,.int .u32 c.filter,.int .i64 c.charge,.int .u64 c.cycle,.int .u64 c.count])*(F*any)))))))) (fun iv _=>c.ts.length-(intOf iv).toNat)
         case atStart=>exact ⟨0,bound,Nat.zero_le _,rfl,rfl,own_left⟩
         case round =>
          obtain ⟨t,y,ht,rfl,hy,hsj⟩:=hrel;clear hsi
          by_cases hlt7:t<c.ts.length
          ·have d7:decide (t<c.ts.length)=true:=decide_eq_true hlt7;have i7:(t:Int)<(c.ts.length:Int):=by omega
           have hnx7:=hid (show bndR (lvC c) RS.sc (lvC c tn) (t+1) bound=if lvC c tn<lvC c t then w64 (y+mostA t 0 RS.sc) else y by rw [hy.out];unfold bndR;rw [List.range_succ,List.foldl_append];rfl);clear hy;have HVt:=hid (fun (w:World) (G:HP) (h:Sat w0 w G)=>(show w.cell? ⟨cg,co+t*6,none⟩=some (.int .i64 (lvC c t)) from by
            obtain ⟨g2,o2,e2,h2,h3⟩:=HT.out w G h t hlt7;simp only [Option.some.injEq,Addr.mk.injEq] at e2;obtain ⟨rfl,rfl,_⟩:=e2;exact h2))
           obtain ⟨vt,hvt⟩:∃ vt,vt=lvC c t:=⟨_,rfl⟩;rw [← hvt] at HVt;have hnx7:=hid (show bndR (lvC c) RS.sc (lvC c tn) (t+1) bound=if vn<vt then w64 (y+mostA t 0 RS.sc) else y by rw [hnx7.out,hvt,Hvn.out]);clear hvt;go_wp2_with fail;refine wp_gen (w0:=w0) ?_;intro wk hsk8;clear hsj
           go_loopw [20,21] (fun mv kv wr=>∃ (k8:Nat) (m:Int),k8≤RS.sc.length∧kv=.int .i64 k8∧mv=.int .u64 m∧Hid (m=mostA t 0 (RS.sc.take k8))∧Sat w0 wr (pts gb 0 [.slice (some ⟨jg0,jo,none⟩) RS.jb.length jc,.slice ra3 RS.ran.length rc3,.slice ka3 RS.tak.length kc3,.slice ea3 RS.sc.length ec3]*(recsP (.slice (some ⟨jg0,jo,none⟩) RS.jb.length jc) (J.set q ⟨(tn:Int),num,rel,fi,ended,ms,lower,y,td⟩)*(numsP .u64 (.slice ra3 RS.ran.length rc3) RS.ran*(numsP .i64 (.slice ka3 RS.tak.length kc3) RS.tak*(recsP (.slice ea3 RS.sc.length ec3) RS.sc*((pts cb 0 [.slice (some ⟨cg,co,none⟩) c.ts.length tc,.slice la c.ls.length lc,.int .i64 c.mutexes,.slice sa c.sems.length sc,.slice qa c.queues.length qc,.slice ma c.timers.length mc,.int .i64 c.table,.int .u32 c.mask,.int .u32 c.filter,.int .i64 c.charge,.int .u64 c.cycle,.int .u64 c.count])*(F*any)))))))) (fun _ kv _=>RS.sc.length-(intOf kv).toNat)
           case atStart=>exact ⟨0,0,Nat.zero_le _,rfl,rfl,rfl,own_left⟩
           case round =>
            obtain ⟨k8,m,hk8,rfl,rfl,hm,hsl8⟩:=hrel;clear hsk8
            by_cases hlt8:k8<RS.sc.length
            ·have d8':decide (k8<RS.sc.length)=true:=decide_eq_true hlt8;have i8':(k8:Int)<(RS.sc.length:Int):=by omega
             haveI:Lt k8 RS.sc.length:=⟨hlt8⟩;obtain ⟨sg8,so8,hea⟩:=recs_at (hsl8.pull (Q:=recsP (.slice ea3 RS.sc.length ec3) RS.sc)) (by omega);have hm8:=hid (show mostA t 0 (RS.sc.take (k8+1))=if (scg RS.sc k8).task=t then max m (scg RS.sc k8).n else m by
              rw [List.take_add_one,List.getElem?_eq_getElem hlt8,hm.out];have e8:scg RS.sc k8=RS.sc[k8]:=by unfold scg;rw [List.getD_eq_getElem?_getD,List.getElem?_eq_getElem hlt8];rfl
              rw [e8];exact mostA_app t 0 _ _)
             clear hm;subst hea
             by_cases h8t:(scg RS.sc k8).task=t
             ·have e8t:((scg RS.sc k8).task==(t:Int))=true:=by simp [h8t]
              rw [if_pos h8t] at hm8;clear h8t
              by_cases h8m:m<(scg RS.sc k8).n
              ·have l8:(m<(scg RS.sc k8).n)=True:=eq_true h8m;have hm9:=hid (show mostA t 0 (RS.sc.take (k8+1))=(scg RS.sc k8).n by rw [hm8.out];omega);clear hm8 h8m;go_wp2_with fail;go_roundw
               case rel=>exact ⟨k8+1,_,by omega,by go_num,rfl,hm9.out.symm,own_left⟩
               case measure=>simp [intOf];omega
              ·have l8:(m<(scg RS.sc k8).n)=False:=eq_false h8m;have hm9:=hid (show mostA t 0 (RS.sc.take (k8+1))=m by rw [hm8.out];omega);clear hm8 h8m;go_wp2_with fail;go_roundw
               case rel=>exact ⟨k8+1,_,by omega,by go_num,rfl,hm9.out.symm,own_left⟩
               case measure=>simp [intOf];omega
             ·have e8t:((scg RS.sc k8).task==(t:Int))=false:=by simp [h8t]
              rw [if_neg h8t] at hm8;clear h8t;go_wp2_with fail;go_roundw
              case rel=>exact ⟨k8+1,m,by omega,by go_num,rfl,hm8.out.symm,own_left⟩
              case measure=>simp [intOf];omega
            ·have d8':decide (k8<RS.sc.length)=false:=decide_eq_false hlt8;obtain rfl:k8=RS.sc.length:=by omega
             rw [List.take_length] at hm;rw [← hm.out] at hnx7;clear hm hlt8;go_wp2_with fail;refine wp_gen (w0:=w0) ?_;intro wl hsl9;clear hsl8;obtain ⟨y2,hy2⟩:∃ y2,y2=w64 (y+m):=⟨_,rfl⟩;have u7:IntKind.u64.wrap (y+m)=y2:=by rw [IntKind.wrap_u64,hy2]
             rw [← hy2] at hnx7;clear hy2
             go_upto_region 55 with fail
             obtain ⟨z7,hz7⟩:∃ z7:Bool,z7=decide (vn<vt):=⟨_,rfl⟩;have e7:decide (vn<vt)=z7:=hz7.symm;have hnx7:=hid (show bndR (lvC c) RS.sc (lvC c tn) (t+1) bound=if z7=true then y2 else y by rw [hnx7.out,hz7];simp only [decide_eq_true_eq]);clear hz7
             go_cut [315] (fun bv wx=>bv=.bool z7∧Sat w0 wx (pts gb 0 [.slice (some ⟨jg0,jo,none⟩) RS.jb.length jc,.slice ra3 RS.ran.length rc3,.slice ka3 RS.tak.length kc3,.slice ea3 RS.sc.length ec3]*(recsP (.slice (some ⟨jg0,jo,none⟩) RS.jb.length jc) (J.set q ⟨(tn:Int),num,rel,fi,ended,ms,lower,y,td⟩)*(numsP .u64 (.slice ra3 RS.ran.length rc3) RS.ran*(numsP .i64 (.slice ka3 RS.tak.length kc3) RS.tak*(recsP (.slice ea3 RS.sc.length ec3) RS.sc*((pts cb 0 [.slice (some ⟨cg,co,none⟩) c.ts.length tc,.slice la c.ls.length lc,.int .i64 c.mutexes,.slice sa c.sems.length sc,.slice qa c.queues.length qc,.slice ma c.timers.length mc,.int .i64 c.table,.int .u32 c.mask,.int .u32 c.filter,.int .i64 c.charge,.int .u64 c.cycle,.int .u64 c.count])*(F*any))))))))
             case first =>
              as_aux_lemma =>
              go_wp2_with fail;refine wp_gen (w0:=w0) ?_;intro wt hst;clear hsl9;refine wp_region_early (fun w'=>Sat w0 w' (pts gb 0 [.slice (some ⟨jg0,jo,none⟩) RS.jb.length jc,.slice ra3 RS.ran.length rc3,.slice ka3 RS.tak.length kc3,.slice ea3 RS.sc.length ec3]*(recsP (.slice (some ⟨jg0,jo,none⟩) RS.jb.length jc) (J.set q ⟨(tn:Int),num,rel,fi,ended,ms,lower,y,td⟩)*(numsP .u64 (.slice ra3 RS.ran.length rc3) RS.ran*(numsP .i64 (.slice ka3 RS.tak.length kc3) RS.tak*(recsP (.slice ea3 RS.sc.length ec3) RS.sc*((pts cb 0 [.slice (some ⟨cg,co,none⟩) c.ts.length tc,.slice la c.ls.length lc,.int .i64 c.mutexes,.slice sa c.sems.length sc,.slice qa c.queues.length qc,.slice ma c.timers.length mc,.int .i64 c.table,.int .u32 c.mask,.int .u32 c.filter,.int .i64 c.charge,.int .u64 c.cycle,.int .u64 c.count])*(F*any)))))))) [(0,true),(1,true),(2,true),(3,true),(4,true),(5,true),(6,true),(7,true),(8,true),(9,true),(10,true),(11,true),(12,true),(13,true),(14,true),(15,true)] (by kernel_rfl) (by kernel_rfl) (fun _ _ _ _ h=>h) own_left ?_
              iterate 5 (first | refine early_S ?_ | refine early_N ?_)
              refine early_T rfl (by rfl) ⟨.int .i64 (vt),fun w hSw=>?_,?_⟩
              ·have h0:=HVt.out w _ hSw
               go_simp
               try with_reducible rfl
              simp only [Act.put,zqA,zqP,zqQ]
              iterate 8 (first | refine early_S ?_ | refine early_N ?_)
              refine early_T rfl (by rfl) ⟨.int .i64 (vn),fun w hSw=>?_,?_⟩
              ·have h0:=HVn.out w _ hSw
               go_simp
               try with_reducible rfl
              simp only [Act.put,zqA,zqP,zqQ]
              iterate 1 (first | refine early_S ?_ | refine early_N ?_)
              refine early_done ?_;go_wp2_with fail
              go_meet
              exact ⟨rfl,own_left⟩
             case rest =>
              as_aux_lemma =>
              obtain ⟨rfl,hs9⟩:=hcut;clear hsl9 e7
              cases z7
              case true =>
               go_wp2_with fail;go_roundw
               case rel=>exact ⟨t+1,y2,by omega,by go_num,hid (hnx7.out.trans (if_pos rfl)).symm,own_left⟩
               case measure=>simp [intOf];omega
              case false =>
               go_wp2_with fail;go_roundw
               case rel=>exact ⟨t+1,y,by omega,by go_num,hid (hnx7.out.trans (if_neg (by decide))).symm,own_left⟩
               case measure=>simp [intOf];omega
          ·have d7:decide (t<c.ts.length)=false:=decide_eq_false hlt7;obtain rfl:t=c.ts.length:=by omega
           have hn9:=hid (show J.set q ⟨(tn:Int),num,rel,fi,ended,ms,lower,y,td⟩=(RS.jb.take (q+1)).map (finR (lvC c) (dlC c) c.ts.length RS.sc (lastCo l))++RS.jb.drop (q+1) by rw [← hnx.out,hfx.out,hy.out]);clear hy;go_wp2_with fail;go_roundw
           case rel=>exact ⟨q+1,_,by omega,by go_num,hn9,own_left⟩
           case measure=>simp [intOf];omega
      ·have d1:decide (q<RS.jb.length)=false:=decide_eq_false hlt;obtain rfl:q=RS.jb.length:=by omega
       have hJ2:=hid (show J=RS.jb.map (finR (lvC c) (dlC c) c.ts.length RS.sc (lastCo l)) by rw [hJ.out,List.take_length,List.drop_length,List.append_nil]);clear hJ hlt;go_wp2_with fail;go_ret;refine ⟨gb,_,rfl,read_same Hf.out.1 Hf.out.2,?_⟩;refine rb_in (ja:=ja) (jc:=jc) (ra:=ra3) (rc:=rc3) (ka:=ka3) (kc:=kc3) (ea:=ea3) (ec:=ec3) J RS.ran RS.tak RS.sc hJ2.out.symm rfl rfl rfl ?_;rw [show J.length=RS.jb.length by rw [hJ2.out,List.length_map]];exact own_left
end Go.Proofs.YtkeommmigopnkaaGreatDoor
