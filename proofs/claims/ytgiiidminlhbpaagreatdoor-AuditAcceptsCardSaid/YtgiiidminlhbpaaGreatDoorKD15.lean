/-
  Parts of the proof: KernSw WorldHw Great WorldLg AccA.
-/
import Derived.WalkMore
import Derived.Test.YtgiiidminlhbpaaGreatDoorKD0
import Derived.Test.YtgiiidminlhbpaaGreatDoorKD9
import Derived.Test.YtgiiidminlhbpaaGreatDoorKD12
import Derived.Test.YtgiiidminlhbpaaGreatDoorKD13
import Derived.Test.YtgiiidminlhbpaaGreatDoorKD14
set_option linter.unusedVariables false
set_option linter.unusedSimpArgs false
set_option maxHeartbeats 32000000
set_option maxRecDepth 100000
namespace Go.Proofs.YtgiiidminlhbpaaGreatDoor
open Go.RowKit Go.Sx Go.Dl Go.Lk Go.Rq Go.Au
instance:z63 Tryz.prog 42 Mv 1 z6P 24 24 (.slice none 0 0):=⟨⟨by kernel_rfl,by kernel_rfl,rfl⟩,by decide⟩
abbrev stZ:List Value:=[.int .u64 0,.int .u64 0,.int .i64 0,.int .i64 0,.int .i64 0,.int .u32 0,.int .u32 0,.int .u32 0,.int .u32 0,.int .u32 0,.int .u32 0,.int .u32 0,.int .u32 0,.slice none 0 0,.slice none 0 0,.int .u32 0,.int .u32 0,.slice none 0 0,.slice none 0 0,.slice none 0 0,.slice none 0 0,.slice none 0 0,.slice none 0 0,.slice none 0 0,.slice none 0 0,.slice none 0 0,.slice none 0 0,.int .u64 0,.bool false]
abbrev stB (K0:Kn) (da:Option Addr) (dc:Nat):List Value:=[.int .u64 K0.count,.int .u64 K0.cycle,.int .i64 K0.run,.int .i64 K0.ln.active,.int .i64 0,.int .u32 0,.int .u32 0,.int .u32 0,.int .u32 0,.int .u32 0,.int .u32 0,.int .u32 0,.int .u32 0,.slice none 0 0,.slice none 0 0,.int .u32 K0.ln.pending,.int .u32 K0.ln.mask,.slice none 0 0,.slice none 0 0,.slice none 0 0,.slice none 0 0,.slice none 0 0,.slice none 0 0,.slice none 0 0,.slice none 0 0,.slice none 0 0,.slice da K0.S.length dc,.int .u64 K0.reads,.bool K0.stopped]
theorem zuZ (b o o2:Nat) (v:Value) (l:List Value) (ho:o2=o+1:=by rfl):pts b o (v::l)=pts b o [v]*pts b o2 l:=by
 subst ho;exact zd b o [v] l
theorem zwq (sb:Nat) (v14 v15 v16 v17 v18 v19 v20 v21 v22 v23 v24 v25 v26 v27 v28:Value):pts sb 14 [v14,v15,v16,v17,v18,v19,v20,v21,v22,v23,v24,v25,v26,v27,v28]=pts sb 14 [v14]*(pts sb 15 [v15,v16]*(pts sb 17 [v17]*(pts sb 18 [v18]*(pts sb 19 [v19]*(pts sb 20 [v20]*(pts sb 21 [v21]*(pts sb 22 [v22]*(pts sb 23 [v23]*(pts sb 24 [v24]*(pts sb 25 [v25]*(pts sb 26 [v26,v27,v28]))))))))))):=by
 rw [zuZ sb 14 15,show pts sb 15 [v15,v16,v17,v18,v19,v20,v21,v22,v23,v24,v25,v26,v27,v28]=pts sb 15 [v15,v16]*pts sb 17 [v17,v18,v19,v20,v21,v22,v23,v24,v25,v26,v27,v28] from zd sb 15 [v15,v16] _,zuZ sb 17 18,zuZ sb 18 19,zuZ sb 19 20,zuZ sb 20 21,zuZ sb 21 22,zuZ sb 22 23,zuZ sb 23 24,zuZ sb 24 25,zuZ sb 25 26]
theorem zvF {w0 w:World} {P A B F1 F:HP} {G:Prop} [hs:Sat w0 w P] [h:z2u P A F1] [h2:z2u F1 B F] (k:∀ Rh:HP,Hid (Rh=F)→Sat w0 w (A*(B*Rh))→G):G:=k F rfl (hs.perm (by rw [h.eq,h2.eq]))
theorem zvG {w0 w:World} {P A B C F1 F2 F:HP} {G:Prop} [hs:Sat w0 w P] [h:z2u P A F1] [h2:z2u F1 B F2] [h3:z2u F2 C F] (k:∀ Rh:HP,Hid (Rh=F)→Sat w0 w (A*(B*(C*Rh)))→G):G:=k F rfl (hs.perm (by rw [h.eq,h2.eq,h3.eq]))
theorem zwg {w0 w:World} {P A B C D F1 F2 F3 F:HP} {G:Prop} [hs:Sat w0 w P] [h:z2u P A F1] [h2:z2u F1 B F2] [h3:z2u F2 C F3] [h4:z2u F3 D F] (k:∀ Rh:HP,Hid (Rh=F)→Sat w0 w (A*(B*(C*(D*Rh))))→G):G:=k F rfl (hs.perm (by rw [h.eq,h2.eq,h3.eq,h4.eq]))
theorem z7L {w0 w:World} {sb:Nat} {v0 v1 v2 v3 v4 v5 v6 v7 v8 v9 v10 v11 v12 v13 v14 v15 v16 v17 v18 v19 v20 v21 v22 v23 v24 v25 v26 v27 v28:Value} {P Q R F:HP} (hs:Sat w0 w (pts sb 0 [v0,v1,v2,v3,v4,v5,v6,v7,v8,v9,v10,v11,v12,v13,v14,v15,v16,v17,v18,v19,v20,v21,v22,v23,v24,v25,v26,v27,v28]*(P*(Q*(R*F))))) :
  Sat w0 w (pts sb 0 [v0,v1,v2,v3]*(pts sb 4 [v4,v5,v6,v7,v8,v9,v10,v11,v12,v13]*(pts sb 14 [v14]*(pts sb 15 [v15,v16]*(pts sb 17 [v17]*(pts sb 18 [v18]*(pts sb 19 [v19]*(pts sb 20 [v20]*(pts sb 21 [v21]*(pts sb 22 [v22]*(pts sb 23 [v23]*(pts sb 24 [v24]*(pts sb 25 [v25]*(pts sb 26 [v26,v27,v28]*(P*(Q*(R*(F*(any))))))))))))))))))):=by
 have e:pts sb 0 [v0,v1,v2,v3,v4,v5,v6,v7,v8,v9,v10,v11,v12,v13,v14,v15,v16,v17,v18,v19,v20,v21,v22,v23,v24,v25,v26,v27,v28]=pts sb 0 [v0,v1,v2,v3]*(pts sb 4 [v4,v5,v6,v7,v8,v9,v10,v11,v12,v13]*(pts sb 14 [v14]*(pts sb 15 [v15,v16]*(pts sb 17 [v17]*(pts sb 18 [v18]*(pts sb 19 [v19]*(pts sb 20 [v20]*(pts sb 21 [v21]*(pts sb 22 [v22]*(pts sb 23 [v23]*(pts sb 24 [v24]*(pts sb 25 [v25]*(pts sb 26 [v26,v27,v28]))))))))))))):=by
  rw [← zwq];have e1:=zd sb 0 [v0,v1,v2,v3] ([v4,v5,v6,v7,v8,v9,v10,v11,v12,v13]++[v14,v15,v16,v17,v18,v19,v20,v21,v22,v23,v24,v25,v26,v27,v28]);have e2:=zd sb 4 [v4,v5,v6,v7,v8,v9,v10,v11,v12,v13] [v14,v15,v16,v17,v18,v19,v20,v21,v22,v23,v24,v25,v26,v27,v28];simp only [List.length_cons,List.length_nil,Nat.zero_add,Nat.reduceAdd] at e1 e2;rw [e2] at e1;exact e1
 rw [e] at hs;exact (Sat.toAny (hs.perm (zz _).symm)).perm (by ac_rfl)
theorem zmL (b:Nat) (x:Fx) (c:Cf) (K0:Kn) {k:Nat} (h:k<c.ts.length):∃ R,knP b x c K0=pts x.ta.b (x.ta.o+k*15) ([.int .i64 (K0.T k).st,.int .i64 (K0.T k).lev,.int .i64 (K0.T k).on,.int .i64 (K0.T k).late,.int .u32 (K0.T k).job,.int .i64 (K0.T k).at_,.int .u32 (K0.T k).rg.r0,.int .u32 (K0.T k).rg.r1,.int .u32 (K0.T k).rg.r2,.int .u32 (K0.T k).rg.r3,.int .u32 (K0.T k).rg.r4,.int .u32 (K0.T k).rg.r5,.int .u32 (K0.T k).rg.r6,.int .u32 (K0.T k).rg.r7,.slice ((x.tv k).ad (z1x c k)) (z1x c k) (x.tv k).cap])*R:=by
 obtain ⟨R,e⟩:=z0P (b:=b) (x:=x) (K:=K0) h;have e1:=e (K0.T k) (K0.tm k);rw [show (K0.setT k (K0.T k)).wTm (upd K0.tm k (K0.tm k))=K0 from by unfold Kn.setT Kn.wTm;rw [z10,z10]] at e1;refine ⟨pts (x.tv k).b (x.tv k).o ((K0.tm k).map (Value.int .u32))*R,?_⟩;rw [e1];unfold zcp;have e2:=zd x.ta.b (x.ta.o+k*15) (tsL (K0.T k)) (cxL (K0.T k).at_ (K0.T k).rg ((x.tv k).v (z1x c k)));have e3:([.int .i64 (K0.T k).st,.int .i64 (K0.T k).lev,.int .i64 (K0.T k).on,.int .i64 (K0.T k).late,.int .u32 (K0.T k).job,.int .i64 (K0.T k).at_,.int .u32 (K0.T k).rg.r0,.int .u32 (K0.T k).rg.r1,.int .u32 (K0.T k).rg.r2,.int .u32 (K0.T k).rg.r3,.int .u32 (K0.T k).rg.r4,.int .u32 (K0.T k).rg.r5,.int .u32 (K0.T k).rg.r6,.int .u32 (K0.T k).rg.r7,.slice ((x.tv k).ad (z1x c k)) (z1x c k) (x.tv k).cap]:List Value)=tsL (K0.T k)++cxL (K0.T k).at_ (K0.T k).rg ((x.tv k).v (z1x c k)):=rfl;rw [e3,e2];simp only [List.length_cons,List.length_nil,Nat.zero_add,Nat.reduceAdd]
 ac_rfl
theorem stR {w0 w:World} {P:HP} (hs:Sat w0 w P):Sat w0 w (z7 (α:=Mv) (.slice none 0 0) []*P):=hs.perm (by rw [z03];exact (zm _).symm)
theorem stT {w0 w:World} {P:HP} (hs:Sat w0 w P):Sat w0 w (z7 (α:=Tr) (.slice none 0 0) []*P):=hs.perm (by rw [z03];exact (zm _).symm)
theorem zmH {w0 w:World} {Q Q' R F:HP} (hs:Sat w0 w (Q*F)) (e:Q=Q'*R):Sat w0 w (Q'*(R*F)):=hs.perm (by rw [e];ac_rfl)
theorem stN {w0 w:World} {P:HP} (hs:Sat w0 w P):Sat w0 w (z5 .i64 (.slice none 0 0) []*P):=hs.perm (by rw [z1r,zm])
def stW (co cy : Int) (v : Value) : HP:=pur (∃ cl : List Value,v = .agg cl.toArray ∧ cl.length = 29 ∧ cl.all (·.oneCell') = true ∧ cl[0]? = some (.int .u64 co) ∧ cl[1]? = some (.int .u64 cy)) * any
theorem zvm (b:Nat) (x:Fx) (c:Cf) (K0:Kn) (h:Inv c K0) (w0 w:World) (F:HP) (hs:Sat w0 w (knP b x c K0*F)) :
  Calls Tryz.prog 30 #[.pointer (some ⟨b,0,none⟩)] w (Ret w0 fun v'=>stW K0.count K0.cycle v'*F):=by
 have H:=hid h;have hAct:=hid (fun w G hs=>z4L b x c K0 w0 w G hs);have hPen:=hid (fun w G hs=>zdT b x c K0 w0 w G hs);have hMsk:=hid (fun w G hs=>zkc b x c K0 w0 w G hs);have hDue:=hid (fun w G hs=>zm6 b x c K0 w0 w G hs h.S);have hnt:=h.cf.nt;have hnl:=h.cf.nl;have hns:=h.cf.ns;have hnq:=h.cf.nq;clear h
 go_enter Tryz.func30,Tryz.ntmps30
 go_upto_region 3 with fail
 refine z9 (w0:=w0) ?_;intro w1 hs1;clear hs;generalize w.heap.size=rb at *
 go_cut [3] (fun sv wx=>∃ sb:Nat, ∃ da:Option Addr, ∃ dc:Nat,sv=.pointer (some ⟨sb,0,none⟩)∧Sat w0 wx (pts sb 0 [.int .u64 K0.count,.int .u64 K0.cycle,.int .i64 K0.run,.int .i64 K0.ln.active]*(pts sb 4 [.int .i64 0,.int .u32 0,.int .u32 0,.int .u32 0,.int .u32 0,.int .u32 0,.int .u32 0,.int .u32 0,.int .u32 0,.slice none 0 0]*(pts sb 14 [.slice none 0 0]*(pts sb 15 [.int .u32 K0.ln.pending,.int .u32 K0.ln.mask]*(pts sb 17 [.slice none 0 0]*(pts sb 18 [.slice none 0 0]*(pts sb 19 [.slice none 0 0]*(pts sb 20 [.slice none 0 0]*(pts sb 21 [.slice none 0 0]*(pts sb 22 [.slice none 0 0]*(pts sb 23 [.slice none 0 0]*(pts sb 24 [.slice none 0 0]*(pts sb 25 [.slice none 0 0]*(pts sb 26 [.slice da K0.S.length dc,.int .u64 K0.reads,.bool K0.stopped]*(z7 (.slice da K0.S.length dc) K0.S*(knP b x c K0*(pts rb 0 [.int .u64 0,.int .u64 0,.int .i64 0,.int .i64 0,.int .i64 0,.int .u32 0,.int .u32 0,.int .u32 0,.int .u32 0,.int .u32 0,.int .u32 0,.int .u32 0,.int .u32 0,.slice none 0 0,.slice none 0 0,.int .u32 0,.int .u32 0,.slice none 0 0,.slice none 0 0,.slice none 0 0,.slice none 0 0,.slice none 0 0,.slice none 0 0,.slice none 0 0,.slice none 0 0,.slice none 0 0,.slice none 0 0,.int .u64 0,.bool false]*(F*(any))))))))))))))))))))
 case first =>
  have hLf:=hid (fun (wx:World) (sb:Nat) (da:Option Addr) (dc:Nat) (h:Sat w0 wx (pts sb 0 (stB K0 da dc)*(z7 (.slice da K0.S.length dc) K0.S*(knP b x c K0*(pts rb 0 [.int .u64 0,.int .u64 0,.int .i64 0,.int .i64 0,.int .i64 0,.int .u32 0,.int .u32 0,.int .u32 0,.int .u32 0,.int .u32 0,.int .u32 0,.int .u32 0,.int .u32 0,.slice none 0 0,.slice none 0 0,.int .u32 0,.int .u32 0,.slice none 0 0,.slice none 0 0,.slice none 0 0,.slice none 0 0,.slice none 0 0,.slice none 0 0,.slice none 0 0,.slice none 0 0,.slice none 0 0,.slice none 0 0,.int .u64 0,.bool false]*F)))))=>(⟨sb,da,dc,rfl,z7L h⟩:∃ sb2:Nat, ∃ da:Option Addr, ∃ dc:Nat,Value.pointer (some ⟨sb,0,none⟩)=.pointer (some ⟨sb2,0,none⟩)∧Sat w0 wx (pts sb2 0 [.int .u64 K0.count,.int .u64 K0.cycle,.int .i64 K0.run,.int .i64 K0.ln.active]*(pts sb2 4 [.int .i64 0,.int .u32 0,.int .u32 0,.int .u32 0,.int .u32 0,.int .u32 0,.int .u32 0,.int .u32 0,.int .u32 0,.slice none 0 0]*(pts sb2 14 [.slice none 0 0]*(pts sb2 15 [.int .u32 K0.ln.pending,.int .u32 K0.ln.mask]*(pts sb2 17 [.slice none 0 0]*(pts sb2 18 [.slice none 0 0]*(pts sb2 19 [.slice none 0 0]*(pts sb2 20 [.slice none 0 0]*(pts sb2 21 [.slice none 0 0]*(pts sb2 22 [.slice none 0 0]*(pts sb2 23 [.slice none 0 0]*(pts sb2 24 [.slice none 0 0]*(pts sb2 25 [.slice none 0 0]*(pts sb2 26 [.slice da K0.S.length dc,.int .u64 K0.reads,.bool K0.stopped]*(z7 (.slice da K0.S.length dc) K0.S*(knP b x c K0*(pts rb 0 [.int .u64 0,.int .u64 0,.int .i64 0,.int .i64 0,.int .i64 0,.int .u32 0,.int .u32 0,.int .u32 0,.int .u32 0,.int .u32 0,.int .u32 0,.int .u32 0,.int .u32 0,.slice none 0 0,.slice none 0 0,.int .u32 0,.int .u32 0,.slice none 0 0,.slice none 0 0,.slice none 0 0,.slice none 0 0,.slice none 0 0,.slice none 0 0,.slice none 0 0,.slice none 0 0,.slice none 0 0,.slice none 0 0,.int .u64 0,.bool false]*(F*(any)))))))))))))))))))));refine z2t (fun w'=>Sat w0 w' (knP b x c K0*any)) [0,1,2,4,8,0,32,64,128,256,0,1024,2048,4096,0,16384,32768,65536,131072,0,524288,1048576,2097152,4456448,0,16777216,33554432,67108864,142606336,0,536870912,1073741824,2147483648,4563402752,0,17179869184,34359738368,68719476736,0,274877906944,549755813888,1099511627776,2345329238544,0,17592186044415] 45 (.read 0 (.read 1 (.read 2 (.read 3 (.read 4 (.read 5 (.read 6 (.read 7 (.read 8 (.read 9 (.read 10 (.read 11 (.read 12 (.read 13 (.read 14 (.read 15 (.read 16 (.read 17 (.read 19 (.read 20 (.read 21 (.read 22 (.read 24 (.read 25 (.read 26 (.read 27 (.read 29 (.read 30 (.read 31 (.read 32 (.read 34 (.read 35 (.read 36 (.read 37 (.read 38 (.read 39 (.read 40 (.read 41 (.alt 18 (.alt 23 (.alt 28 (.alt 33 (.read 42 (.run 43 (.run 44 .done))) 43 (.run 33 (.read 42 (.run 44 .done)))) 43 (.run 28 (.run 33 (.read 42 (.run 44 .done))))) 43 (.run 23 (.run 28 (.run 33 (.read 42 (.run 44 .done)))))) 43 (.run 18 (.run 23 (.run 28 (.run 33 (.read 42 (.run 44 .done))))))))))))))))))))))))))))))))))))))))))))) (by kernel_rfl) (by kernel_rfl) (fun _ _ _ _ h=>h) zq ?_
  iterate 38 (first | refine ztb ?_ | refine zta ?_)
  refine z4a ?_ ?_
  ·refine z0d (by rfl) (by rfl) ?hx (hAct.out _ _ own) ?_
   case hx=>go_simp
   rintro en w10 ⟨rfl,hs10⟩;refine ⟨_,rfl,_,fun _ h=>h,zq,?_⟩;simp only [Act.put,zqA,zqP,zqQ];refine z4a ?_ ?_
   ·refine z0d (by rfl) (by rfl) ?hx (hPen.out _ _ own) ?_
    case hx=>go_simp
    rintro en w11 ⟨rfl,hs11⟩;refine ⟨_,rfl,_,fun _ h=>h,zq,?_⟩;simp only [Act.put,zqA,zqP,zqQ];refine z4a ?_ ?_
    ·refine z0d (by rfl) (by rfl) ?hx (hMsk.out _ _ own) ?_
     case hx=>go_simp
     rintro en w12 ⟨rfl,hs12⟩;refine ⟨_,rfl,_,fun _ h=>h,zq,?_⟩;simp only [Act.put,zqA,zqP,zqQ];refine z4a ?_ ?_
     ·refine z0d (by rfl) (by rfl) ?hx (hDue.out _ _ own) ?_
      case hx=>go_simp
      rintro en w13 ⟨v13,rfl,hs13⟩;obtain ⟨da,dc,rfl⟩:=hs13.recs_form;refine ⟨_,rfl,_,fun _ h=>h,zq,?_⟩;simp only [Act.put,zqA,zqP,zqQ]
      iterate 1 (first | refine ztb ?_ | refine zta ?_)
      refine z15 (w0:=w0) stZ 45 (by rfl) (by rfl) (by go_simp) ?_;intro sb wA hsA;refine ⟨_,fun _ h=>h,zq,?_⟩;simp only [Act.put,zqA,zqP,zqQ];refine z17 (w0:=w0) (b:=sb) (o:=0) (cells:=stB K0 da dc) (old:=stZ) (by rfl) (by rfl) (by rfl) (by rfl) (by rfl) own (by rfl) (by kernel_rfl) (by rfl) ?_;intro wB hsB;refine ⟨_,fun _ h=>h,zq,?_⟩;simp only [Act.put,zqA,zqP,zqQ];refine z16 ?_;go_wp2_with fail
      go_meet
      exact hLf.out _ sb da dc z3
     ·refine z15 (w0:=w0) stZ 45 (by rfl) (by rfl) (by go_simp) ?_;intro sb wA hsA;refine ⟨_,fun _ h=>h,zq,?_⟩;simp only [Act.put,zqA,zqP,zqQ];refine z0d (by rfl) (by rfl) ?hx (hDue.out _ _ own) ?_
      case hx=>go_simp
      rintro en w13 ⟨v13,rfl,hs13⟩;obtain ⟨da,dc,rfl⟩:=hs13.recs_form;refine ⟨_,rfl,_,fun _ h=>h,zq,?_⟩;simp only [Act.put,zqA,zqP,zqQ]
      iterate 1 (first | refine ztb ?_ | refine zta ?_)
      refine z17 (w0:=w0) (b:=sb) (o:=0) (cells:=stB K0 da dc) (old:=stZ) (by rfl) (by rfl) (by rfl) (by rfl) (by rfl) own (by rfl) (by kernel_rfl) (by rfl) ?_;intro wB hsB;refine ⟨_,fun _ h=>h,zq,?_⟩;simp only [Act.put,zqA,zqP,zqQ];refine z16 ?_;go_wp2_with fail
      go_meet
      exact hLf.out _ sb da dc z3
    ·refine z15 (w0:=w0) stZ 45 (by rfl) (by rfl) (by go_simp) ?_;intro sb wA hsA;refine ⟨_,fun _ h=>h,zq,?_⟩;simp only [Act.put,zqA,zqP,zqQ];refine z0d (by rfl) (by rfl) ?hx (hMsk.out _ _ own) ?_
     case hx=>go_simp
     rintro en w12 ⟨rfl,hs12⟩;refine ⟨_,rfl,_,fun _ h=>h,zq,?_⟩;simp only [Act.put,zqA,zqP,zqQ];refine z0d (by rfl) (by rfl) ?hx (hDue.out _ _ own) ?_
     case hx=>go_simp
     rintro en w13 ⟨v13,rfl,hs13⟩;obtain ⟨da,dc,rfl⟩:=hs13.recs_form;refine ⟨_,rfl,_,fun _ h=>h,zq,?_⟩;simp only [Act.put,zqA,zqP,zqQ]
     iterate 1 (first | refine ztb ?_ | refine zta ?_)
     refine z17 (w0:=w0) (b:=sb) (o:=0) (cells:=stB K0 da dc) (old:=stZ) (by rfl) (by rfl) (by rfl) (by rfl) (by rfl) own (by rfl) (by kernel_rfl) (by rfl) ?_;intro wB hsB;refine ⟨_,fun _ h=>h,zq,?_⟩;simp only [Act.put,zqA,zqP,zqQ];refine z16 ?_;go_wp2_with fail
     go_meet
     exact hLf.out _ sb da dc z3
   ·refine z15 (w0:=w0) stZ 45 (by rfl) (by rfl) (by go_simp) ?_;intro sb wA hsA;refine ⟨_,fun _ h=>h,zq,?_⟩;simp only [Act.put,zqA,zqP,zqQ];refine z0d (by rfl) (by rfl) ?hx (hPen.out _ _ own) ?_
    case hx=>go_simp
    rintro en w11 ⟨rfl,hs11⟩;refine ⟨_,rfl,_,fun _ h=>h,zq,?_⟩;simp only [Act.put,zqA,zqP,zqQ];refine z0d (by rfl) (by rfl) ?hx (hMsk.out _ _ own) ?_
    case hx=>go_simp
    rintro en w12 ⟨rfl,hs12⟩;refine ⟨_,rfl,_,fun _ h=>h,zq,?_⟩;simp only [Act.put,zqA,zqP,zqQ];refine z0d (by rfl) (by rfl) ?hx (hDue.out _ _ own) ?_
    case hx=>go_simp
    rintro en w13 ⟨v13,rfl,hs13⟩;obtain ⟨da,dc,rfl⟩:=hs13.recs_form;refine ⟨_,rfl,_,fun _ h=>h,zq,?_⟩;simp only [Act.put,zqA,zqP,zqQ]
    iterate 1 (first | refine ztb ?_ | refine zta ?_)
    refine z17 (w0:=w0) (b:=sb) (o:=0) (cells:=stB K0 da dc) (old:=stZ) (by rfl) (by rfl) (by rfl) (by rfl) (by rfl) own (by rfl) (by kernel_rfl) (by rfl) ?_;intro wB hsB;refine ⟨_,fun _ h=>h,zq,?_⟩;simp only [Act.put,zqA,zqP,zqQ];refine z16 ?_;go_wp2_with fail
    go_meet
    exact hLf.out _ sb da dc z3
  ·refine z15 (w0:=w0) stZ 45 (by rfl) (by rfl) (by go_simp) ?_;intro sb wA hsA;refine ⟨_,fun _ h=>h,zq,?_⟩;simp only [Act.put,zqA,zqP,zqQ];refine z0d (by rfl) (by rfl) ?hx (hAct.out _ _ own) ?_
   case hx=>go_simp
   rintro en w10 ⟨rfl,hs10⟩;refine ⟨_,rfl,_,fun _ h=>h,zq,?_⟩;simp only [Act.put,zqA,zqP,zqQ];refine z0d (by rfl) (by rfl) ?hx (hPen.out _ _ own) ?_
   case hx=>go_simp
   rintro en w11 ⟨rfl,hs11⟩;refine ⟨_,rfl,_,fun _ h=>h,zq,?_⟩;simp only [Act.put,zqA,zqP,zqQ];refine z0d (by rfl) (by rfl) ?hx (hMsk.out _ _ own) ?_
   case hx=>go_simp
   rintro en w12 ⟨rfl,hs12⟩;refine ⟨_,rfl,_,fun _ h=>h,zq,?_⟩;simp only [Act.put,zqA,zqP,zqQ];refine z0d (by rfl) (by rfl) ?hx (hDue.out _ _ own) ?_
   case hx=>go_simp
   rintro en w13 ⟨v13,rfl,hs13⟩;obtain ⟨da,dc,rfl⟩:=hs13.recs_form;refine ⟨_,rfl,_,fun _ h=>h,zq,?_⟩;simp only [Act.put,zqA,zqP,zqQ]
   iterate 1 (first | refine ztb ?_ | refine zta ?_)
   refine z17 (w0:=w0) (b:=sb) (o:=0) (cells:=stB K0 da dc) (old:=stZ) (by rfl) (by rfl) (by rfl) (by rfl) (by rfl) own (by rfl) (by kernel_rfl) (by rfl) ?_;intro wB hsB;refine ⟨_,fun _ h=>h,zq,?_⟩;simp only [Act.put,zqA,zqP,zqQ];refine z16 ?_;go_wp2_with fail
   go_meet
   exact hLf.out _ sb da dc z3
 case rest =>
  obtain ⟨sb,da,dc,rfl,hs2⟩:=hcut;clear hs1
  rename_i Kc hKc
  refine hKc _ _ ?_;clear hKc;refine zew fun Kc hKc=>?_
  go_cut [3] (fun sv wx=>sv = .pointer (some ⟨sb,0,none⟩) ∧ ∃ cx : List Value,cx.length = 10 ∧ cx.all (·.oneCell') = true ∧ Sat w0 wx (pts sb 0 [.int .u64 K0.count,.int .u64 K0.cycle,.int .i64 K0.run,.int .i64 K0.ln.active] * (pts sb 4 (cx) * (pts sb 14 [.slice none 0 0] * (pts sb 15 [.int .u32 K0.ln.pending,.int .u32 K0.ln.mask] * (pts sb 17 [.slice none 0 0] * (pts sb 18 [.slice none 0 0] * (pts sb 19 [.slice none 0 0] * (pts sb 20 [.slice none 0 0] * (pts sb 21 [.slice none 0 0] * (pts sb 22 [.slice none 0 0] * (pts sb 23 [.slice none 0 0] * (pts sb 24 [.slice none 0 0] * (pts sb 25 [.slice none 0 0] * (pts sb 26 [.slice da K0.S.length dc,.int .u64 K0.reads,.bool K0.stopped] * (z7 (.slice da K0.S.length dc) K0.S * (knP b x c K0 * (pts rb 0 [.int .u64 0,.int .u64 0,.int .i64 0,.int .i64 0,.int .i64 0,.int .u32 0,.int .u32 0,.int .u32 0,.int .u32 0,.int .u32 0,.int .u32 0,.int .u32 0,.int .u32 0,.slice none 0 0,.slice none 0 0,.int .u32 0,.int .u32 0,.slice none 0 0,.slice none 0 0,.slice none 0 0,.slice none 0 0,.slice none 0 0,.slice none 0 0,.slice none 0 0,.slice none 0 0,.slice none 0 0,.slice none 0 0,.int .u64 0,.bool false] * (F * (any))))))))))))))))))))
  case first =>
   refine z9 (w0:=w0) ?_;intro w2 hs3;clear hs2;refine zvG (hs:=hs3) (A:=pts sb 0 [.int .u64 K0.count,.int .u64 K0.cycle,.int .i64 K0.run,.int .i64 K0.ln.active]) (B:=pts sb 4 [.int .i64 0,.int .u32 0,.int .u32 0,.int .u32 0,.int .u32 0,.int .u32 0,.int .u32 0,.int .u32 0,.int .u32 0,.slice none 0 0]) (C:=knP b x c K0) fun Rh hR0 hsH=>?_;clear hs3
   by_cases ha:K0.ln.active=255
   ·have g1:(K0.ln.active != 255)=false:=by simp [ha]
    clear ha;go_wp2_with fail
    go_meet
    refine ⟨rfl,[.int .i64 0,.int .u32 0,.int .u32 0,.int .u32 0,.int .u32 0,.int .u32 0,.int .u32 0,.int .u32 0,.int .u32 0,.slice none 0 0],rfl,rfl,?_⟩;have hR1:=hR0.out;clear hR0;subst hR1;exact z3
   ·have g1:(K0.ln.active != 255)=true:=by simp [ha]
    have hact:=H.out.act.resolve_left ha;obtain ⟨n,hn⟩:∃ n:Nat,K0.ln.active=n:=⟨K0.ln.active.toNat,by omega⟩;have hnl2:n<c.ls.length:=by omega
    have e4:=(H.out.mems n hnl2).1;have e5:=(H.out.cf.l n hnl2).1;have hCl:=hid (fun (w:World) (G:HP) (hs:Sat w0 w (knP b x c K0*G))=>zd1 b x c K0 w0 w G hs n hnl2 e4 (by unfold z1w;omega));rw [hn] at g1 hsH;have hmm:x.mm.ad c.ls.length=some ⟨x.mm.b,x.mm.o,none⟩:=x.mm.ad_pos (by omega);have d1:decide (n<c.ls.length)=true:=decide_eq_true hnl2;have i1:(n:Int)<(c.ls.length:Int):=by omega
    haveI:Lt n c.ls.length:=⟨hnl2⟩;clear ha hact e4 e5;obtain ⟨R,hR⟩:=z0O b x c K0;have hR1:knP b x c K0=(ex fun v:Sh=>pts b 531 (cxL K0.iat K0.irg v.v))*R:=hR K0.iat K0.irg;clear hR;have hs4:=hsH.pull (Q:=knP b x c K0);have HR:=hid hR1;rw [hR1] at hs4;obtain ⟨iv,hs5⟩:=(hs4.perm (zb _ _ _)).ex_out;clear hs4 hR1;have hs6:Sat w0 w2 (pts sb 4 [.int .i64 0,.int .u32 0,.int .u32 0,.int .u32 0,.int .u32 0,.int .u32 0,.int .u32 0,.int .u32 0,.int .u32 0,.slice none 0 0]*(pts b 531 (cxL K0.iat K0.irg iv.v)*(R*(pts sb 0 [.int .u64 K0.count,.int .u64 K0.cycle,.int .i64 K0.run,.int .i64 n]*Rh)))):=z3 (hs:=hs5)
    go_upto_region 5 with fail
    clear hs5;go_wp2_with (first | (refine z1u rfl rfl rfl (hs6.pull (Q:=pts b 531 (cxL K0.iat K0.irg iv.v))) Tryz.underlying39 rfl (by kernel_rfl) ?_) | (refine z09 (cells:=cxL K0.iat K0.irg iv.v) rfl rfl rfl rfl hs6 rfl (by kernel_rfl) rfl ?_;intro w7 hs7));have hs8:Sat w0 w7 (knP b x c K0*(pts sb 4 (cxL K0.iat K0.irg iv.v)*(pts sb 0 [.int .u64 K0.count,.int .u64 K0.cycle,.int .i64 K0.run,.int .i64 n]*Rh))):=by
     have hz:Sat w0 w7 ((ex fun v:Sh=>pts b 531 (cxL K0.iat K0.irg v.v))*(R*(pts sb 4 (cxL K0.iat K0.irg iv.v)*(pts sb 0 [.int .u64 K0.count,.int .u64 K0.cycle,.int .i64 K0.run,.int .i64 n]*Rh)))):=Sat.ex_in (f:=fun v:Sh=>pts b 531 (cxL K0.iat K0.irg v.v)) iv (z3 (hs:=hs7));rw [HR.out];exact hz.perm (by ac_rfl)
    clear hs6 hs7 hsH;have hs9:Sat w0 w7 (knP b x c K0*(pts sb 13 [iv.v]*(pts sb 4 (.int .i64 K0.iat::K0.irg.cells)*(pts sb 0 [.int .u64 K0.count,.int .u64 K0.cycle,.int .i64 K0.run,.int .i64 n]*Rh)))):=by
     have e:pts sb 4 (cxL K0.iat K0.irg iv.v)=pts sb 4 (.int .i64 K0.iat::K0.irg.cells)*pts sb 13 [iv.v]:=zd sb 4 (.int .i64 K0.iat::K0.irg.cells) [iv.v];rw [e] at hs8;exact hs8.perm (by ac_rfl)
    clear hs8;refine zv (fun w'=>Sat w0 w' (pts sb 0 [.int .u64 K0.count,.int .u64 K0.cycle,.int .i64 K0.run,.int .i64 n]*(knP b x c K0*any))) 11 [(0,0),(1,0),(2,0),(3,1),(4,0),(5,1),(6,0),(7,1),(8,2),(9,0),(10,0),(11,3)] (by kernel_rfl) (by kernel_rfl) (fun _ _ _ _ h=>h) zk ?_
    iterate 8 (first | refine zsW ?_ | refine zsY ?_ | refine zsV ?_ | refine zsX ?_)
    refine z13 (by rfl) (by rfl) ?hx (hCl.out _ _ own) ?_
    case hx=>go_simp
    rintro en w10 ⟨v10,rfl,hs10⟩;obtain ⟨ra,rc,rfl⟩:=hs10.slice_form;clear hs9;refine ⟨_,rfl,zk,?_⟩;simp only [Act.put,zqA,zqP,zqQ]
    iterate 2 (first | refine zsW ?_ | refine zsY ?_ | refine zsV ?_ | refine zsX ?_)
    apply z1I
    case ho=>rfl
    case hg=>rfl
    case hx=>go_simp;exact rfl
    simp only [Act.put,zqA,zqP,zqQ];refine z0a ?_;go_wp2_with fail
    go_meet
    refine ⟨rfl,cxL K0.iat K0.irg (.slice ra (K0.mems n).length rc),rfl,rfl,?_⟩;have e:pts sb 4 (cxL K0.iat K0.irg (.slice ra (K0.mems n).length rc))=pts sb 4 (.int .i64 K0.iat::K0.irg.cells)*pts sb 13 [.slice ra (K0.mems n).length rc]:=zd sb 4 (.int .i64 K0.iat::K0.irg.cells) [.slice ra (K0.mems n).length rc];rw [e,hn];have hR1:=hR0.out;clear hR0;subst hR1;simp only [zb];exact z3
  case rest =>
   obtain ⟨rfl,cx,hcx,hco,hs3⟩:=hcut;clear hs2;refine hKc _ _ ?_;clear hKc;go_wp2_with fail;generalize hA1:x.mm.ad c.ls.length=ma0 at *;have HA1:=hid hA1;clear hA1;refine z9 (w0:=w0) ?_;intro w4 hs4;clear hs3;refine zvF (hs:=hs4) (A:=pts sb 14 [.slice none 0 0]) (B:=knP b x c K0) fun Rh hR1 hsH=>?_;clear hs4
   go_loopw [84] (fun i wr=>∃ k:Nat, ∃ vmm:Option Addr, ∃ cmm:Nat, ∃ mmm:List Mv,k≤c.ls.length∧i=.int .i64 k∧(mmm.length=k)∧Sat w0 wr (z7 (.slice vmm mmm.length cmm) mmm*(pts sb 14 [.slice vmm mmm.length cmm]*(knP b x c K0*(Rh*(any)))))) (fun i _=>c.ls.length-(intOf i).toNat)
   case atStart=>exact ⟨0,none,0,[],Nat.zero_le _,rfl,rfl,(stR (z3:Sat w0 _ (pts sb 14 [.slice none 0 0]*(knP b x c K0*(Rh*(any))))))⟩
   case round =>
    obtain ⟨k,vmm,cmm,mmm,hk,rfl,hmmm,hsr⟩:=hrel;clear hsH;have hlmm:mmm.length≤100:=by omega
    have HMmm:=hid hmmm;clear hmmm
    by_cases hlt:k<c.ls.length
    ·have d3:decide (k<c.ls.length)=true:=decide_eq_true hlt;have i3:(k:Int)<(c.ls.length:Int):=by omega
     obtain rfl:ma0=some ⟨x.mm.b,x.mm.o,none⟩:=HA1.out.symm.trans (x.mm.ad_pos (by omega));haveI:Lt k c.ls.length:=⟨hlt⟩;have hCl:=hid (fun (w:World) (G:HP) (hs:Sat w0 w (knP b x c K0*G))=>zd1 b x c K0 w0 w G hs k hlt (H.out.mems k hlt).1 (by have:=(H.out.cf.l k hlt).1;unfold z1w;omega));go_wp2_with fail;refine z9 (w0:=w0) ?_;intro wymm hsymm;clear hsr;refine zv (fun w'=>Sat w0 w' (pts sb 14 [.slice vmm mmm.length cmm]*(knP b x c K0*any))) 7 [(0,0),(1,1),(2,0),(3,2),(4,2),(5,2),(6,0),(7,3)] (by kernel_rfl) (by kernel_rfl) (fun _ _ _ _ h=>h) zk ?_
     iterate 3 (first | refine zsW ?_ | refine zsY ?_ | refine zsV ?_ | refine zsX ?_)
     refine z13 (by rfl) (by rfl) ?hx (hCl.out _ _ own) ?_
     case hx=>go_simp
     rintro en wCmm ⟨vC,rfl,hsCmm⟩;obtain ⟨ramm,rcmm,rfl⟩:=hsCmm.slice_form;clear hsymm;refine ⟨_,rfl,zk,?_⟩;simp only [Act.put,zqA,zqP,zqQ];refine z24 (w0:=w0) [.slice ramm (K0.mems k).length rcmm] 30 1 (by rfl) (by rfl) (by go_simp) ?_;intro nb wNmm hsNmm;clear hsCmm;refine ⟨zk,?_⟩;simp only [Act.put,zqA,zqP,zqQ];refine z3d (w0:=w0) (E:=z6P) (l1:=mmm) (l2:=[⟨ramm,(K0.mems k).length,rcmm⟩]) (b:=nb) (by rfl) (by rfl) (by rfl) (by rfl) (by rfl) (zea (A:=z7 (.slice vmm mmm.length cmm) mmm) (B:=pts nb 0 [.slice ramm (K0.mems k).length rcmm])) rfl (by simp;omega) ?_;intro apmm acmm aLmm wLmm ahLmm hsLmm;clear hsNmm;refine ⟨zk,?_⟩;simp only [Act.put,zqA,zqP,zqQ]
     iterate 1 (first | refine zsW ?_ | refine zsY ?_ | refine zsV ?_ | refine zsX ?_)
     apply z1I
     case ho=>rfl
     case hg=>rfl
     case hx=>go_simp;exact rfl
     simp only [Act.put,zqA,zqP,zqQ];refine z0a ?_;go_wp2_with fail;go_roundw
     case rel =>
      refine ⟨k+1,apmm,acmm,aLmm,by omega,by go_num,by rw [ahLmm.out,List.length_append,HMmm.out];rfl,z3⟩
     case measure=>simp [intOf];omega
    ·have hkn:k=c.ls.length:=by omega
     subst hkn;have d3:decide (c.ls.length<c.ls.length)=false:=by simp
     have hR0:=hR1.out;clear hR1;subst hR0;have hs_1:=hsr.drop;clear hsr hk hlt HMmm hlmm;go_wp2_with fail;generalize hA2:x.ta.ad c.ts.length=ta0 at *;have HA2:=hid hA2;clear hA2;refine z9 (w0:=w0) ?_;intro w24 hs24;clear hs_1;refine zvF (hs:=hs24) (A:=pts sb 17 [.slice none 0 0]) (B:=knP b x c K0) fun Rh hR2 hsH=>?_;clear hs24
     go_loopw [101] (fun i wr=>∃ k:Nat, ∃ vtt:Option Addr, ∃ ctt:Nat, ∃ mtt:List Tr,k≤c.ts.length∧i=.int .i64 k∧(mtt.length=k)∧Sat w0 wr (z7 (.slice vtt mtt.length ctt) mtt*(pts sb 17 [.slice vtt mtt.length ctt]*(knP b x c K0*(Rh*(any)))))) (fun i _=>c.ts.length-(intOf i).toNat)
     case atStart=>exact ⟨0,none,0,[],Nat.zero_le _,rfl,rfl,(stT (z3:Sat w0 _ (pts sb 17 [.slice none 0 0]*(knP b x c K0*(Rh*(any))))))⟩
     case round =>
      obtain ⟨k,vtt,ctt,mtt,hk,rfl,hmtt,hsr⟩:=hrel;clear hsH;have hltt:mtt.length≤100:=by omega
      have HMtt:=hid hmtt;clear hmtt
      by_cases hlt:k<c.ts.length
      ·have d3:decide (k<c.ts.length)=true:=decide_eq_true hlt;have i3:(k:Int)<(c.ts.length:Int):=by omega
       obtain rfl:ta0=some ⟨x.ta.b,x.ta.o,none⟩:=HA2.out.symm.trans (x.ta.ad_pos (by omega));haveI:Lt k c.ts.length:=⟨hlt⟩;have hCl:=hid (fun (w:World) (G:HP) (hs:Sat w0 w (knP b x c K0*G))=>zhC b x c K0 w0 w G hs k hlt (H.out.tm k hlt).1 (by have:=(H.out.cf.t k hlt).2.2.2.2.1;unfold z1x;omega));obtain ⟨R,hR⟩:=zmL b x c K0 hlt;have HL:=hid (zmH (hsr.pull (Q:=knP b x c K0)) hR);clear hR;go_wp2_with (first | (refine z1u (cells:=[.int .i64 (K0.T k).st,.int .i64 (K0.T k).lev,.int .i64 (K0.T k).on,.int .i64 (K0.T k).late,.int .u32 (K0.T k).job,.int .i64 (K0.T k).at_,.int .u32 (K0.T k).rg.r0,.int .u32 (K0.T k).rg.r1,.int .u32 (K0.T k).rg.r2,.int .u32 (K0.T k).rg.r3,.int .u32 (K0.T k).rg.r4,.int .u32 (K0.T k).rg.r5,.int .u32 (K0.T k).rg.r6,.int .u32 (K0.T k).rg.r7,.slice ((x.tv k).ad (z1x c k)) (z1x c k) (x.tv k).cap]) rfl rfl rfl HL.out Tryz.underlying125 rfl (by kernel_rfl) ?_) | (refine z09 (w0:=w0) (cells:=[.int .i64 (K0.T k).st,.int .i64 (K0.T k).lev,.int .i64 (K0.T k).on,.int .i64 (K0.T k).late,.int .u32 (K0.T k).job,.int .i64 (K0.T k).at_,.int .u32 (K0.T k).rg.r0,.int .u32 (K0.T k).rg.r1,.int .u32 (K0.T k).rg.r2,.int .u32 (K0.T k).rg.r3,.int .u32 (K0.T k).rg.r4,.int .u32 (K0.T k).rg.r5,.int .u32 (K0.T k).rg.r6,.int .u32 (K0.T k).rg.r7,.slice ((x.tv k).ad (z1x c k)) (z1x c k) (x.tv k).cap]) (old:=[.int .i64 0,.int .i64 0,.int .i64 0,.int .i64 0,.int .u32 0,.int .i64 0,.int .u32 0,.int .u32 0,.int .u32 0,.int .u32 0,.int .u32 0,.int .u32 0,.int .u32 0,.int .u32 0,.slice none 0 0]) rfl rfl rfl rfl own rfl (by kernel_rfl) rfl ?_;intro w5 hs5));generalize wr.heap.size=tb at *;clear HL hsr;refine (hCl.out _ _ own).mono ?_;rintro en w6 ⟨v6,rfl,hs6⟩;obtain ⟨ratt,rctt,rfl⟩:=hs6.slice_form;clear hs5;go_wp2_with (first | (refine z1u (w0:=w0) (cells:=[.int .i64 (K0.T k).st,.int .i64 (K0.T k).lev,.int .i64 (K0.T k).on,.int .i64 (K0.T k).late,.int .u32 (K0.T k).job,.int .i64 (K0.T k).at_,.int .u32 (K0.T k).rg.r0,.int .u32 (K0.T k).rg.r1,.int .u32 (K0.T k).rg.r2,.int .u32 (K0.T k).rg.r3,.int .u32 (K0.T k).rg.r4,.int .u32 (K0.T k).rg.r5,.int .u32 (K0.T k).rg.r6,.int .u32 (K0.T k).rg.r7,.slice ratt (K0.tm k).length rctt]) rfl rfl rfl own Tryz.underlying125 rfl (by kernel_rfl) ?_) | (at_builtin;refine zcx (w0:=w0) (E:=zjX) (l1:=mtt) (l2:=[⟨K0.T k,ratt,(K0.tm k).length,rctt⟩]) rfl rfl zj7 (by decide) rfl rfl (zea (A:=z7 (.slice vtt mtt.length ctt) mtt) (B:=pts _ 0 [.int .i64 (K0.T k).st,.int .i64 (K0.T k).lev,.int .i64 (K0.T k).on,.int .i64 (K0.T k).late,.int .u32 (K0.T k).job,.int .i64 (K0.T k).at_,.int .u32 (K0.T k).rg.r0,.int .u32 (K0.T k).rg.r1,.int .u32 (K0.T k).rg.r2,.int .u32 (K0.T k).rg.r3,.int .u32 (K0.T k).rg.r4,.int .u32 (K0.T k).rg.r5,.int .u32 (K0.T k).rg.r6,.int .u32 (K0.T k).rg.r7,.slice ratt (K0.tm k).length rctt])) rfl (by omega) ?_;intro aptt actt aLtt w7 ahLtt hs7));go_wp2_with fail;go_roundw
       case rel =>
        refine ⟨k+1,aptt,actt,aLtt,by omega,by go_num,by rw [ahLtt.out,List.length_append,HMtt.out];rfl,z3⟩
       case measure=>simp [intOf];omega
      ·have hkn:k=c.ts.length:=by omega
       subst hkn;have d3:decide (c.ts.length<c.ts.length)=false:=by simp
       have hR0:=hR2.out;clear hR2;subst hR0;have hs_2:=hsr.drop;clear hsr hk hlt HMtt hltt;go_wp2_with fail;refine z9 (w0:=w0) ?_;intro w34 hs34;clear hs_2;refine zvF (hs:=hs34) (A:=pts sb 18 [.slice none 0 0]) (B:=knP b x c K0) fun Rh hR3 hsH=>?_;clear hs34
       go_loopw [118] (fun i wr=>∃ k:Nat, ∃ vrr:Option Addr, ∃ crr:Nat, ∃ mrr:List Mv,k≤32∧i=.int .i64 k∧(mrr.length=k)∧Sat w0 wr (z7 (.slice vrr mrr.length crr) mrr*(pts sb 18 [.slice vrr mrr.length crr]*(knP b x c K0*(Rh*(any)))))) (fun i _=>32-(intOf i).toNat)
       case atStart=>exact ⟨0,none,0,[],Nat.zero_le _,rfl,rfl,(stR (z3:Sat w0 _ (pts sb 18 [.slice none 0 0]*(knP b x c K0*(Rh*(any))))))⟩
       case round =>
        obtain ⟨k,vrr,crr,mrr,hk,rfl,hmrr,hsr⟩:=hrel;clear hsH;have hlrr:mrr.length≤100:=by omega
        have HMrr:=hid hmrr;clear hmrr
        by_cases hlt:k<32
        ·have d3:decide (k<32)=true:=decide_eq_true hlt;have i3:(k:Int)<32:=by omega
         have d4:decide ((k:Int)<32)=true:=decide_eq_true i3;have hCl:=hid (fun w G hs=>znl b x c K0 w0 w G hs k hlt);go_wp2_with fail;refine z9 (w0:=w0) ?_;intro wyrr hsyrr;clear hsr;refine zv (fun w'=>Sat w0 w' (pts sb 18 [.slice vrr mrr.length crr]*(knP b x c K0*any))) 10 [(0,0),(1,1),(2,0),(3,0),(4,0),(5,0),(6,2),(7,2),(8,2),(9,0),(10,3)] (by kernel_rfl) (by kernel_rfl) (fun _ _ _ _ h=>h) zk ?_
         iterate 6 (first | refine zsW ?_ | refine zsY ?_ | refine zsV ?_ | refine zsX ?_)
         refine z13 (by rfl) (by rfl) ?hx (hCl.out _ _ own) ?_
         case hx=>go_simp
         rintro en wCrr ⟨vC,rfl,hsCrr⟩;obtain ⟨rarr,rcrr,rfl⟩:=hsCrr.slice_form;clear hsyrr;refine ⟨_,rfl,zk,?_⟩;simp only [Act.put,zqA,zqP,zqQ];refine z24 (w0:=w0) [.slice rarr (z2N (K0.R k)).length rcrr] 24 1 (by rfl) (by rfl) (by go_simp) ?_;intro nb wNrr hsNrr;clear hsCrr;refine ⟨zk,?_⟩;simp only [Act.put,zqA,zqP,zqQ];refine z3d (w0:=w0) (E:=z6P) (l1:=mrr) (l2:=[⟨rarr,(z2N (K0.R k)).length,rcrr⟩]) (b:=nb) (by rfl) (by rfl) (by rfl) (by rfl) (by rfl) (zea (A:=z7 (.slice vrr mrr.length crr) mrr) (B:=pts nb 0 [.slice rarr (z2N (K0.R k)).length rcrr])) rfl (by simp;omega) ?_;intro aprr acrr aLrr wLrr ahLrr hsLrr;clear hsNrr;refine ⟨zk,?_⟩;simp only [Act.put,zqA,zqP,zqQ]
         iterate 1 (first | refine zsW ?_ | refine zsY ?_ | refine zsV ?_ | refine zsX ?_)
         apply z1I
         case ho=>rfl
         case hg=>rfl
         case hx=>go_simp;exact rfl
         simp only [Act.put,zqA,zqP,zqQ];refine z0a ?_;go_wp2_with fail;go_roundw
         case rel =>
          refine ⟨k+1,aprr,acrr,aLrr,by omega,by go_num,by rw [ahLrr.out,List.length_append,HMrr.out];rfl,z3⟩
         case measure=>simp [intOf];omega
        ·have hkn:k=32:=by omega
         subst hkn
         skip
         have hR0:=hR3.out;clear hR3;subst hR0;have hs_3:=hsr.drop;clear hsr hk hlt HMrr hlrr;go_wp2_with fail;have hmu:=H.out.cf.mu;generalize hmu0:c.mutexes=mu at *;obtain ⟨M,rfl⟩:=Int.eq_ofNat_of_zero_le hmu.1;have HMu:=hid hmu0;have hM32:M≤32:=by omega
         clear hmu0 hmu;refine z9 (w0:=w0) ?_;intro w44 hs44;clear hs_3;refine zvG (hs:=hs44) (A:=pts sb 19 [.slice none 0 0]) (B:=pts sb 20 [.slice none 0 0]) (C:=knP b x c K0) fun Rh hR4 hsH=>?_;clear hs44
         go_loopw [137] (fun i wr=>∃ k:Nat, ∃ voo:Option Addr, ∃ coo:Nat, ∃ moo:List Int, ∃ vll:Option Addr, ∃ cll:Nat, ∃ mll:List Mv,k≤M∧i=.int .i64 k∧(moo.length=k)∧(mll.length=k)∧Sat w0 wr (z5 .i64 (.slice voo moo.length coo) moo*(z7 (.slice vll mll.length cll) mll*(pts sb 19 [.slice voo moo.length coo]*(pts sb 20 [.slice vll mll.length cll]*(knP b x c K0*(Rh*(any)))))))) (fun i _=>M-(intOf i).toNat)
         case atStart=>exact ⟨0,none,0,[],none,0,[],Nat.zero_le _,rfl,rfl,rfl,(stN (stR (z3:Sat w0 _ (pts sb 19 [.slice none 0 0]*(pts sb 20 [.slice none 0 0]*(knP b x c K0*(Rh*(any))))))))⟩
         case round =>
          obtain ⟨k,voo,coo,moo,vll,cll,mll,hk,rfl,hmoo,hmll,hsr⟩:=hrel;clear hsH;have hloo:moo.length≤100:=by omega
          have HMoo:=hid hmoo;clear hmoo;have hlll:mll.length≤100:=by omega
          have HMll:=hid hmll;clear hmll
          by_cases hlt:k<M
          ·have d3:decide (k<M)=true:=decide_eq_true hlt;have i3:(k:Int)<(M:Int):=by omega
           have hCo:=hid (fun w G hs=>zkg b x c K0 w0 w G hs H.out.L.fit (k:Nat));have hCl:=hid (fun w G hs=>zfw b x c K0 w0 w G hs H.out.L.fit (k:Nat));go_wp2_with fail;refine z9 (w0:=w0) ?_;intro wyoo hsyoo;clear hsr;refine zv (fun w'=>Sat w0 w' (pts sb 19 [.slice voo moo.length coo]*(knP b x c K0*any))) 11 [(0,0),(1,1),(2,0),(3,0),(4,0),(5,1),(6,0),(7,2),(8,2),(9,2),(10,0),(11,3)] (by kernel_rfl) (by kernel_rfl) (fun _ _ _ _ h=>h) zk ?_
           iterate 7 (first | refine zsW ?_ | refine zsY ?_ | refine zsV ?_ | refine zsX ?_)
           refine z13 (by rfl) (by rfl) ?hx (hCo.out _ _ own) ?_
           case hx=>go_simp
           rintro en wCoo ⟨rfl,hsCoo⟩;clear hsyoo;refine ⟨_,rfl,zk,?_⟩;simp only [Act.put,zqA,zqP,zqQ];refine z24 (w0:=w0) [.int .i64 (z1D K0.L (k:Nat))] 3 1 (by rfl) (by rfl) (by go_simp) ?_;intro nb wNoo hsNoo;clear hsCoo;refine ⟨zk,?_⟩;simp only [Act.put,zqA,zqP,zqQ];refine zaN (w0:=w0) (κ:=.i64) (l1:=moo) (l2:=[(z1D K0.L (k:Nat))]) (b:=nb) (by rfl) (by rfl) (by rfl) (by rfl) (by rfl) (zea (A:=z5 .i64 (.slice voo moo.length coo) moo) (B:=pts nb 0 [.int .i64 (z1D K0.L (k:Nat))])) rfl (by simp;omega) ?_;intro apoo acoo aLoo wLoo ahLoo hsLoo;clear hsNoo;refine ⟨zk,?_⟩;simp only [Act.put,zqA,zqP,zqQ]
           iterate 1 (first | refine zsW ?_ | refine zsY ?_ | refine zsV ?_ | refine zsX ?_)
           apply z1I
           case ho=>rfl
           case hg=>rfl
           case hx=>go_simp;exact rfl
           simp only [Act.put,zqA,zqP,zqQ];refine z0a ?_;go_wp2_with fail;refine z9 (w0:=w0) ?_;intro wyll hsyll;clear hsLoo;have hsqll:Sat w0 wyll (z5 .i64 (.slice apoo aLoo.length acoo) aLoo*(z7 (.slice vll mll.length cll) mll*(pts sb 19 [.slice apoo aLoo.length acoo]*(pts sb 20 [.slice vll mll.length cll]*(knP b x c K0*(Rh*(any))))))):=z3;clear hsyll;have hsyll:=hsqll;clear hsqll;refine zv (fun w'=>Sat w0 w' (pts sb 20 [.slice vll mll.length cll]*(knP b x c K0*any))) 11 [(0,0),(1,1),(2,0),(3,0),(4,0),(5,1),(6,0),(7,2),(8,2),(9,2),(10,0),(11,3)] (by kernel_rfl) (by kernel_rfl) (fun _ _ _ _ h=>h) zk ?_
           iterate 7 (first | refine zsW ?_ | refine zsY ?_ | refine zsV ?_ | refine zsX ?_)
           refine z13 (by rfl) (by rfl) ?hx (hCl.out _ _ own) ?_
           case hx=>go_simp
           rintro en wCll ⟨vC,rfl,hsCll⟩;obtain ⟨rall,rcll,rfl⟩:=hsCll.slice_form;clear hsyll;refine ⟨_,rfl,zk,?_⟩;simp only [Act.put,zqA,zqP,zqQ];refine z24 (w0:=w0) [.slice rall (z2j K0.L (k:Nat)).length rcll] 24 1 (by rfl) (by rfl) (by go_simp) ?_;intro nb wNll hsNll;clear hsCll;refine ⟨zk,?_⟩;simp only [Act.put,zqA,zqP,zqQ];refine z3d (w0:=w0) (E:=z6P) (l1:=mll) (l2:=[⟨rall,(z2j K0.L (k:Nat)).length,rcll⟩]) (b:=nb) (by rfl) (by rfl) (by rfl) (by rfl) (by rfl) (zea (A:=z7 (.slice vll mll.length cll) mll) (B:=pts nb 0 [.slice rall (z2j K0.L (k:Nat)).length rcll])) rfl (by simp;omega) ?_;intro apll acll aLll wLll ahLll hsLll;clear hsNll;refine ⟨zk,?_⟩;simp only [Act.put,zqA,zqP,zqQ]
           iterate 1 (first | refine zsW ?_ | refine zsY ?_ | refine zsV ?_ | refine zsX ?_)
           apply z1I
           case ho=>rfl
           case hg=>rfl
           case hx=>go_simp;exact rfl
           simp only [Act.put,zqA,zqP,zqQ];refine z0a ?_;go_wp2_with fail;go_roundw
           case rel =>
            refine ⟨k+1,apoo,acoo,aLoo,apll,acll,aLll,by omega,by go_num,by rw [ahLoo.out,List.length_append,HMoo.out];rfl,by rw [ahLll.out,List.length_append,HMll.out];rfl,z3⟩
           case measure=>simp [intOf];omega
          ·have hkn:M=k:=by omega
           subst hkn;have d3:decide (M<M)=false:=by simp
           have hR0:=hR4.out;clear hR4;subst hR0;have hs_4:=hsr.drop.drop;clear hsr hk hlt HMoo hloo HMll hlll;go_wp2_with fail;generalize hA5:x.sa.ad c.sems.length=sa0 at *;have HA5:=hid hA5;clear hA5;refine z9 (w0:=w0) ?_;intro w54 hs54;clear hs_4;refine zvG (hs:=hs54) (A:=pts sb 21 [.slice none 0 0]) (B:=pts sb 22 [.slice none 0 0]) (C:=knP b x c K0) fun Rh hR5 hsH=>?_;clear hs54
           go_loopw [168] (fun i wr=>∃ k:Nat, ∃ vss:Option Addr, ∃ css:Nat, ∃ mss:List Int, ∃ vkk:Option Addr, ∃ ckk:Nat, ∃ mkk:List Mv,k≤c.sems.length∧i=.int .i64 k∧(mss.length=k)∧(mkk.length=k)∧Sat w0 wr (z5 .i64 (.slice vss mss.length css) mss*(z7 (.slice vkk mkk.length ckk) mkk*(pts sb 21 [.slice vss mss.length css]*(pts sb 22 [.slice vkk mkk.length ckk]*(knP b x c K0*(Rh*(any)))))))) (fun i _=>c.sems.length-(intOf i).toNat)
           case atStart=>exact ⟨0,none,0,[],none,0,[],Nat.zero_le _,rfl,rfl,rfl,(stN (stR (z3:Sat w0 _ (pts sb 21 [.slice none 0 0]*(pts sb 22 [.slice none 0 0]*(knP b x c K0*(Rh*(any))))))))⟩
           case round =>
            obtain ⟨k,vss,css,mss,vkk,ckk,mkk,hk,rfl,hmss,hmkk,hsr⟩:=hrel;clear hsH;have hlss:mss.length≤100:=by omega
            have HMss:=hid hmss;clear hmss;have hlkk:mkk.length≤100:=by omega
            have HMkk:=hid hmkk;clear hmkk
            by_cases hlt:k<c.sems.length
            ·have d3:decide (k<c.sems.length)=true:=decide_eq_true hlt;have i3:(k:Int)<(c.sems.length:Int):=by omega
             obtain rfl:sa0=some ⟨x.sa.b,x.sa.o,none⟩:=HA5.out.symm.trans (x.sa.ad_pos (by omega));haveI:Lt k c.sems.length:=⟨hlt⟩;have hCo:=hid (fun w G hs=>z99 b x c K0 w0 w G hs k hlt);have hCl:=hid (fun w G hs=>zdZ b x c K0 w0 w G hs k hlt (H.out.sm k hlt));go_wp2_with fail;refine z9 (w0:=w0) ?_;intro wyss hsyss;clear hsr;refine zv (fun w'=>Sat w0 w' (pts sb 21 [.slice vss mss.length css]*(knP b x c K0*any))) 7 [(0,0),(1,1),(2,0),(3,2),(4,2),(5,2),(6,0),(7,3)] (by kernel_rfl) (by kernel_rfl) (fun _ _ _ _ h=>h) zk ?_
             iterate 3 (first | refine zsW ?_ | refine zsY ?_ | refine zsV ?_ | refine zsX ?_)
             refine z13 (by rfl) (by rfl) ?hx (hCo.out _ _ own) ?_
             case hx=>go_simp
             rintro en wCss ⟨rfl,hsCss⟩;clear hsyss;refine ⟨_,rfl,zk,?_⟩;simp only [Act.put,zqA,zqP,zqQ];refine z24 (w0:=w0) [.int .i64 (K0.sm k).1] 3 1 (by rfl) (by rfl) (by go_simp) ?_;intro nb wNss hsNss;clear hsCss;refine ⟨zk,?_⟩;simp only [Act.put,zqA,zqP,zqQ];refine zaN (w0:=w0) (κ:=.i64) (l1:=mss) (l2:=[(K0.sm k).1]) (b:=nb) (by rfl) (by rfl) (by rfl) (by rfl) (by rfl) (zea (A:=z5 .i64 (.slice vss mss.length css) mss) (B:=pts nb 0 [.int .i64 (K0.sm k).1])) rfl (by simp;omega) ?_;intro apss acss aLss wLss ahLss hsLss;clear hsNss;refine ⟨zk,?_⟩;simp only [Act.put,zqA,zqP,zqQ]
             iterate 1 (first | refine zsW ?_ | refine zsY ?_ | refine zsV ?_ | refine zsX ?_)
             apply z1I
             case ho=>rfl
             case hg=>rfl
             case hx=>go_simp;exact rfl
             simp only [Act.put,zqA,zqP,zqQ];refine z0a ?_;go_wp2_with fail;refine z9 (w0:=w0) ?_;intro wykk hsykk;clear hsLss;have hsqkk:Sat w0 wykk (z5 .i64 (.slice apss aLss.length acss) aLss*(z7 (.slice vkk mkk.length ckk) mkk*(pts sb 21 [.slice apss aLss.length acss]*(pts sb 22 [.slice vkk mkk.length ckk]*(knP b x c K0*(Rh*(any))))))):=z3;clear hsykk;have hsykk:=hsqkk;clear hsqkk;refine zv (fun w'=>Sat w0 w' (pts sb 22 [.slice vkk mkk.length ckk]*(knP b x c K0*any))) 7 [(0,0),(1,1),(2,0),(3,2),(4,2),(5,2),(6,0),(7,3)] (by kernel_rfl) (by kernel_rfl) (fun _ _ _ _ h=>h) zk ?_
             iterate 3 (first | refine zsW ?_ | refine zsY ?_ | refine zsV ?_ | refine zsX ?_)
             refine z13 (by rfl) (by rfl) ?hx (hCl.out _ _ own) ?_
             case hx=>go_simp
             rintro en wCkk ⟨vC,rfl,hsCkk⟩;obtain ⟨rakk,rckk,rfl⟩:=hsCkk.slice_form;clear hsykk;refine ⟨_,rfl,zk,?_⟩;simp only [Act.put,zqA,zqP,zqQ];refine z24 (w0:=w0) [.slice rakk ((K0.sm k).2).length rckk] 24 1 (by rfl) (by rfl) (by go_simp) ?_;intro nb wNkk hsNkk;clear hsCkk;refine ⟨zk,?_⟩;simp only [Act.put,zqA,zqP,zqQ];refine z3d (w0:=w0) (E:=z6P) (l1:=mkk) (l2:=[⟨rakk,((K0.sm k).2).length,rckk⟩]) (b:=nb) (by rfl) (by rfl) (by rfl) (by rfl) (by rfl) (zea (A:=z7 (.slice vkk mkk.length ckk) mkk) (B:=pts nb 0 [.slice rakk ((K0.sm k).2).length rckk])) rfl (by simp;omega) ?_;intro apkk ackk aLkk wLkk ahLkk hsLkk;clear hsNkk;refine ⟨zk,?_⟩;simp only [Act.put,zqA,zqP,zqQ]
             iterate 1 (first | refine zsW ?_ | refine zsY ?_ | refine zsV ?_ | refine zsX ?_)
             apply z1I
             case ho=>rfl
             case hg=>rfl
             case hx=>go_simp;exact rfl
             simp only [Act.put,zqA,zqP,zqQ];refine z0a ?_;go_wp2_with fail;go_roundw
             case rel =>
              refine ⟨k+1,apss,acss,aLss,apkk,ackk,aLkk,by omega,by go_num,by rw [ahLss.out,List.length_append,HMss.out];rfl,by rw [ahLkk.out,List.length_append,HMkk.out];rfl,z3⟩
             case measure=>simp [intOf];omega
            ·have hkn:k=c.sems.length:=by omega
             subst hkn;have d3:decide (c.sems.length<c.sems.length)=false:=by simp
             have hR0:=hR5.out;clear hR5;subst hR0;have hs_5:=hsr.drop.drop;clear hsr hk hlt HMss hlss HMkk hlkk;go_wp2_with fail;generalize hA6:x.qa.ad c.queues.length=qa0 at *;have HA6:=hid hA6;clear hA6;refine z9 (w0:=w0) ?_;intro w64 hs64;clear hs_5;refine zwg (hs:=hs64) (A:=pts sb 23 [.slice none 0 0]) (B:=pts sb 24 [.slice none 0 0]) (C:=pts sb 25 [.slice none 0 0]) (D:=knP b x c K0) fun Rh hR6 hsH=>?_;clear hs64
             go_loopw [192] (fun i wr=>∃ k:Nat, ∃ vqq:Option Addr, ∃ cqq:Nat, ∃ mqq:List Mv, ∃ vsd:Option Addr, ∃ csd:Nat, ∃ msd:List Mv, ∃ vrc:Option Addr, ∃ crc:Nat, ∃ mrc:List Mv,k≤c.queues.length∧i=.int .i64 k∧(mqq.length=k)∧(msd.length=k)∧(mrc.length=k)∧Sat w0 wr (z7 (.slice vqq mqq.length cqq) mqq*(z7 (.slice vsd msd.length csd) msd*(z7 (.slice vrc mrc.length crc) mrc*(pts sb 23 [.slice vqq mqq.length cqq]*(pts sb 24 [.slice vsd msd.length csd]*(pts sb 25 [.slice vrc mrc.length crc]*(knP b x c K0*(Rh*(any)))))))))) (fun i _=>c.queues.length-(intOf i).toNat)
             case atStart=>exact ⟨0,none,0,[],none,0,[],none,0,[],Nat.zero_le _,rfl,rfl,rfl,rfl,(stR (stR (stR (z3:Sat w0 _ (pts sb 23 [.slice none 0 0]*(pts sb 24 [.slice none 0 0]*(pts sb 25 [.slice none 0 0]*(knP b x c K0*(Rh*(any))))))))))⟩
             case round =>
              obtain ⟨k,vqq,cqq,mqq,vsd,csd,msd,vrc,crc,mrc,hk,rfl,hmqq,hmsd,hmrc,hsr⟩:=hrel;clear hsH;have hlqq:mqq.length≤100:=by omega
              have HMqq:=hid hmqq;clear hmqq;have hlsd:msd.length≤100:=by omega
              have HMsd:=hid hmsd;clear hmsd;have hlrc:mrc.length≤100:=by omega
              have HMrc:=hid hmrc;clear hmrc
              by_cases hlt:k<c.queues.length
              ·have d3:decide (k<c.queues.length)=true:=decide_eq_true hlt;have i3:(k:Int)<(c.queues.length:Int):=by omega
               obtain rfl:qa0=some ⟨x.qa.b,x.qa.o,none⟩:=HA6.out.symm.trans (x.qa.ad_pos (by omega));haveI:Lt k c.queues.length:=⟨hlt⟩;have hC1:=hid (fun w G hs=>zkf b x c K0 w0 w G hs k hlt (H.out.ml k hlt).1);have hC2:=hid (fun w G hs=>zdU b x c K0 w0 w G hs k hlt (H.out.ml k hlt).1);have hC3:=hid (fun w G hs=>zao b x c K0 w0 w G hs k hlt (H.out.ml k hlt).1);go_wp2_with fail;refine z9 (w0:=w0) ?_;intro wyqq hsyqq;clear hsr;refine zv (fun w'=>Sat w0 w' (pts sb 23 [.slice vqq mqq.length cqq]*(knP b x c K0*any))) 7 [(0,0),(1,1),(2,0),(3,2),(4,2),(5,2),(6,0),(7,3)] (by kernel_rfl) (by kernel_rfl) (fun _ _ _ _ h=>h) zk ?_
               iterate 3 (first | refine zsW ?_ | refine zsY ?_ | refine zsV ?_ | refine zsX ?_)
               refine z13 (by rfl) (by rfl) ?hx (hC1.out _ _ own) ?_
               case hx=>go_simp
               rintro en wCqq ⟨vC,rfl,hsCqq⟩;obtain ⟨raqq,rcqq,rfl⟩:=hsCqq.slice_form;clear hsyqq;refine ⟨_,rfl,zk,?_⟩;simp only [Act.put,zqA,zqP,zqQ];refine z24 (w0:=w0) [.slice raqq (z4h (K0.ml k)).length rcqq] 30 1 (by rfl) (by rfl) (by go_simp) ?_;intro nb wNqq hsNqq;clear hsCqq;refine ⟨zk,?_⟩;simp only [Act.put,zqA,zqP,zqQ];refine z3d (w0:=w0) (E:=z6P) (l1:=mqq) (l2:=[⟨raqq,(z4h (K0.ml k)).length,rcqq⟩]) (b:=nb) (by rfl) (by rfl) (by rfl) (by rfl) (by rfl) (zea (A:=z7 (.slice vqq mqq.length cqq) mqq) (B:=pts nb 0 [.slice raqq (z4h (K0.ml k)).length rcqq])) rfl (by simp;omega) ?_;intro apqq acqq aLqq wLqq ahLqq hsLqq;clear hsNqq;refine ⟨zk,?_⟩;simp only [Act.put,zqA,zqP,zqQ]
               iterate 1 (first | refine zsW ?_ | refine zsY ?_ | refine zsV ?_ | refine zsX ?_)
               apply z1I
               case ho=>rfl
               case hg=>rfl
               case hx=>go_simp;exact rfl
               simp only [Act.put,zqA,zqP,zqQ];refine z0a ?_;go_wp2_with fail;refine z9 (w0:=w0) ?_;intro wysd hsysd;clear hsLqq;have hsqsd:Sat w0 wysd (z7 (.slice apqq aLqq.length acqq) aLqq*(z7 (.slice vsd msd.length csd) msd*(z7 (.slice vrc mrc.length crc) mrc*(pts sb 23 [.slice apqq aLqq.length acqq]*(pts sb 24 [.slice vsd msd.length csd]*(pts sb 25 [.slice vrc mrc.length crc]*(knP b x c K0*(Rh*(any))))))))):=z3;clear hsysd;have hsysd:=hsqsd;clear hsqsd;refine zv (fun w'=>Sat w0 w' (pts sb 24 [.slice vsd msd.length csd]*(knP b x c K0*any))) 7 [(0,0),(1,1),(2,0),(3,2),(4,2),(5,2),(6,0),(7,3)] (by kernel_rfl) (by kernel_rfl) (fun _ _ _ _ h=>h) zk ?_
               iterate 3 (first | refine zsW ?_ | refine zsY ?_ | refine zsV ?_ | refine zsX ?_)
               refine z13 (by rfl) (by rfl) ?hx (hC2.out _ _ own) ?_
               case hx=>go_simp
               rintro en wCsd ⟨vC,rfl,hsCsd⟩;obtain ⟨rasd,rcsd,rfl⟩:=hsCsd.slice_form;clear hsysd;refine ⟨_,rfl,zk,?_⟩;simp only [Act.put,zqA,zqP,zqQ];refine z24 (w0:=w0) [.slice rasd ((K0.ml k).S).length rcsd] 24 1 (by rfl) (by rfl) (by go_simp) ?_;intro nb wNsd hsNsd;clear hsCsd;refine ⟨zk,?_⟩;simp only [Act.put,zqA,zqP,zqQ];refine z3d (w0:=w0) (E:=z6P) (l1:=msd) (l2:=[⟨rasd,((K0.ml k).S).length,rcsd⟩]) (b:=nb) (by rfl) (by rfl) (by rfl) (by rfl) (by rfl) (zea (A:=z7 (.slice vsd msd.length csd) msd) (B:=pts nb 0 [.slice rasd ((K0.ml k).S).length rcsd])) rfl (by simp;omega) ?_;intro apsd acsd aLsd wLsd ahLsd hsLsd;clear hsNsd;refine ⟨zk,?_⟩;simp only [Act.put,zqA,zqP,zqQ]
               iterate 1 (first | refine zsW ?_ | refine zsY ?_ | refine zsV ?_ | refine zsX ?_)
               apply z1I
               case ho=>rfl
               case hg=>rfl
               case hx=>go_simp;exact rfl
               simp only [Act.put,zqA,zqP,zqQ];refine z0a ?_;go_wp2_with fail;refine z9 (w0:=w0) ?_;intro wyrc hsyrc;clear hsLsd;have hsqrc:Sat w0 wyrc (z7 (.slice apqq aLqq.length acqq) aLqq*(z7 (.slice apsd aLsd.length acsd) aLsd*(z7 (.slice vrc mrc.length crc) mrc*(pts sb 23 [.slice apqq aLqq.length acqq]*(pts sb 24 [.slice apsd aLsd.length acsd]*(pts sb 25 [.slice vrc mrc.length crc]*(knP b x c K0*(Rh*(any))))))))):=z3;clear hsyrc;have hsyrc:=hsqrc;clear hsqrc;refine zv (fun w'=>Sat w0 w' (pts sb 25 [.slice vrc mrc.length crc]*(knP b x c K0*any))) 7 [(0,0),(1,1),(2,0),(3,2),(4,2),(5,2),(6,0),(7,3)] (by kernel_rfl) (by kernel_rfl) (fun _ _ _ _ h=>h) zk ?_
               iterate 3 (first | refine zsW ?_ | refine zsY ?_ | refine zsV ?_ | refine zsX ?_)
               refine z13 (by rfl) (by rfl) ?hx (hC3.out _ _ own) ?_
               case hx=>go_simp
               rintro en wCrc ⟨vC,rfl,hsCrc⟩;obtain ⟨rarc,rcrc,rfl⟩:=hsCrc.slice_form;clear hsyrc;refine ⟨_,rfl,zk,?_⟩;simp only [Act.put,zqA,zqP,zqQ];refine z24 (w0:=w0) [.slice rarc ((K0.ml k).R).length rcrc] 24 1 (by rfl) (by rfl) (by go_simp) ?_;intro nb wNrc hsNrc;clear hsCrc;refine ⟨zk,?_⟩;simp only [Act.put,zqA,zqP,zqQ];refine z3d (w0:=w0) (E:=z6P) (l1:=mrc) (l2:=[⟨rarc,((K0.ml k).R).length,rcrc⟩]) (b:=nb) (by rfl) (by rfl) (by rfl) (by rfl) (by rfl) (zea (A:=z7 (.slice vrc mrc.length crc) mrc) (B:=pts nb 0 [.slice rarc ((K0.ml k).R).length rcrc])) rfl (by simp;omega) ?_;intro aprc acrc aLrc wLrc ahLrc hsLrc;clear hsNrc;refine ⟨zk,?_⟩;simp only [Act.put,zqA,zqP,zqQ]
               iterate 1 (first | refine zsW ?_ | refine zsY ?_ | refine zsV ?_ | refine zsX ?_)
               apply z1I
               case ho=>rfl
               case hg=>rfl
               case hx=>go_simp;exact rfl
               simp only [Act.put,zqA,zqP,zqQ];refine z0a ?_;go_wp2_with fail;go_roundw
               case rel =>
                refine ⟨k+1,apqq,acqq,aLqq,apsd,acsd,aLsd,aprc,acrc,aLrc,by omega,by go_num,by rw [ahLqq.out,List.length_append,HMqq.out];rfl,by rw [ahLsd.out,List.length_append,HMsd.out];rfl,by rw [ahLrc.out,List.length_append,HMrc.out];rfl,z3⟩
               case measure=>simp [intOf];omega
              ·have hkn:k=c.queues.length:=by omega
               subst hkn;have d3:decide (c.queues.length<c.queues.length)=false:=by simp
               have hR0:=hR6.out;clear hR6;subst hR0;have hs_6:=hsr.drop.drop.drop;clear hsr hk hlt HMqq hlqq HMsd hlsd HMrc hlrc;have e15:=zwq sb (.slice vmm mmm.length cmm) (.int .u32 K0.ln.pending) (.int .u32 K0.ln.mask) (.slice vtt mtt.length ctt) (.slice vrr mrr.length crr) (.slice voo moo.length coo) (.slice vll mll.length cll) (.slice vss mss.length css) (.slice vkk mkk.length ckk) (.slice vqq mqq.length cqq) (.slice vsd msd.length csd) (.slice vrc mrc.length crc) (.slice da K0.S.length dc) (.int .u64 K0.reads) (.bool K0.stopped);obtain ⟨cl,hcl⟩:∃ cl,cl=[.int .u64 K0.count,.int .u64 K0.cycle,.int .i64 K0.run,.int .i64 K0.ln.active]++(cx++[.slice vmm mmm.length cmm,.int .u32 K0.ln.pending,.int .u32 K0.ln.mask,.slice vtt mtt.length ctt,.slice vrr mrr.length crr,.slice voo moo.length coo,.slice vll mll.length cll,.slice vss mss.length css,.slice vkk mkk.length ckk,.slice vqq mqq.length cqq,.slice vsd msd.length csd,.slice vrc mrc.length crc,.slice da K0.S.length dc,.int .u64 K0.reads,.bool K0.stopped]):=⟨_,rfl⟩;have hc1:cl.length=29:=by rw [hcl];simp [hcx]
               have hc2 : cl.all (·.oneCell') = true:=by rw [hcl,List.all_append,List.all_append,hco];rfl
               have hc3:cl[0]?=some (.int .u64 K0.count)∧cl[1]?=some (.int .u64 K0.cycle):=by rw [hcl];exact ⟨rfl,rfl⟩
               replace hs_6:=hs_6.pull (Q:=F);replace hs_6:=hs_6.pull (Q:=pts rb 0 [.int .u64 0,.int .u64 0,.int .i64 0,.int .i64 0,.int .i64 0,.int .u32 0,.int .u32 0,.int .u32 0,.int .u32 0,.int .u32 0,.int .u32 0,.int .u32 0,.int .u32 0,.slice none 0 0,.slice none 0 0,.int .u32 0,.int .u32 0,.slice none 0 0,.slice none 0 0,.slice none 0 0,.slice none 0 0,.slice none 0 0,.slice none 0 0,.slice none 0 0,.slice none 0 0,.slice none 0 0,.slice none 0 0,.int .u64 0,.bool false]);replace hs_6:=hs_6.pull (Q:=pts sb 26 [.slice da K0.S.length dc,.int .u64 K0.reads,.bool K0.stopped]);replace hs_6:=hs_6.pull (Q:=pts sb 25 [.slice vrc mrc.length crc]);replace hs_6:=hs_6.pull (Q:=pts sb 24 [.slice vsd msd.length csd]);replace hs_6:=hs_6.pull (Q:=pts sb 23 [.slice vqq mqq.length cqq]);replace hs_6:=hs_6.pull (Q:=pts sb 22 [.slice vkk mkk.length ckk]);replace hs_6:=hs_6.pull (Q:=pts sb 21 [.slice vss mss.length css]);replace hs_6:=hs_6.pull (Q:=pts sb 20 [.slice vll mll.length cll]);replace hs_6:=hs_6.pull (Q:=pts sb 19 [.slice voo moo.length coo]);replace hs_6:=hs_6.pull (Q:=pts sb 18 [.slice vrr mrr.length crr]);replace hs_6:=hs_6.pull (Q:=pts sb 17 [.slice vtt mtt.length ctt]);replace hs_6:=hs_6.pull (Q:=pts sb 15 [.int .u32 K0.ln.pending,.int .u32 K0.ln.mask]);replace hs_6:=hs_6.pull (Q:=pts sb 14 [.slice vmm mmm.length cmm]);replace hs_6:=hs_6.pull (Q:=pts sb 4 cx);replace hs_6:=hs_6.pull (Q:=pts sb 0 [.int .u64 K0.count,.int .u64 K0.cycle,.int .i64 K0.run,.int .i64 K0.ln.active]);have hsE:Sat w0 wr (pts sb 0 cl*(pts rb 0 [.int .u64 0,.int .u64 0,.int .i64 0,.int .i64 0,.int .i64 0,.int .u32 0,.int .u32 0,.int .u32 0,.int .u32 0,.int .u32 0,.int .u32 0,.int .u32 0,.int .u32 0,.slice none 0 0,.slice none 0 0,.int .u32 0,.int .u32 0,.slice none 0 0,.slice none 0 0,.slice none 0 0,.slice none 0 0,.slice none 0 0,.slice none 0 0,.slice none 0 0,.slice none 0 0,.slice none 0 0,.slice none 0 0,.int .u64 0,.bool false]*(F*(any)))):=by
                rw [hcl,zd,zd,hcx];simp only [List.length_cons,List.length_nil,Nat.zero_add,Nat.reduceAdd];rw [e15];simp only [zb];exact z3
               clear e15 hs_6;have hC:=hid (And.intro hc2 hc3);clear hcl hc3;go_wp2_with (first | (refine z1u (cells:=cl) rfl rfl rfl hsE Tryz.underlying45 rfl (by rw [hc1];kernel_rfl) ?_) | (refine z09 (w0:=w0) (cells:=cl) (old:=stZ) rfl rfl rfl rfl own (by rw [hc1];rfl) (by rw [hc1];kernel_rfl) hc2 ?_;intro wF hsF));refine bodyPost_ret (z3p Tryz.results30 rfl hsF Tryz.underlying45 rfl (by rw [hc1];kernel_rfl)) rfl ?_;exact ⟨_,rfl,(Sat.pur_in ⟨cl,rfl,hc1,hC.out.1,hC.out.2⟩ (z3:Sat w0 wF (any*F))).perm (zb _ _ _).symm⟩
theorem ztV {w0 w : World} {co cy : Int} {v : Value} {F : HP} (hs : Sat w0 w (stW co cy v * F)) : ∃ cl : List Value,v = .agg cl.toArray ∧ cl.length = 29 ∧ cl.all (·.oneCell') = true ∧ (cl[0]? = some (.int .u64 co) ∧ cl[1]? = some (.int .u64 cy)) ∧ Sat w0 w (any * F):=by
 obtain ⟨⟨cl,h1,h2,h3,h4⟩,h⟩:=(hs.perm (zb _ _ _)).pur_out;exact ⟨cl,h1,h2,h3,h4,h⟩
theorem zvy {w0 w : World} {co cy : Int} {cl : List Value} {F : HP} (h1 : cl.length = 29) (h2 : cl.all (·.oneCell') = true) (h3 : cl[0]? = some (.int .u64 co) ∧ cl[1]? = some (.int .u64 cy)) (hs : Sat w0 w (any * F)) : Sat w0 w (stW co cy (.agg cl.toArray) * F) :=
 (Sat.pur_in ⟨cl,rfl,h1,h2,h3⟩ hs).perm (zb _ _ _).symm
theorem zvq (g b:Nat) (y:Fx) (c:Cf) (ta:Option Addr) (tc:Nat) (W:Wd) (hW:zr8 c W) (w0 w:World) (F:HP) (hs:Sat w0 w (wdP g b y c ta tc W*F)) :
  Calls Tryz.prog 19 #[.pointer (some ⟨g,0,none⟩)] w (Ret w0 fun v=>stW W.K.count W.K.cycle v*F):=by
 obtain ⟨aa,ac,hs⟩:=zqf hs;have hI:=hW.inv;clear hW
 go_enter Tryz.func19,Tryz.ntmps19
 go_wp2_with fail;refine (zvm b y c W.K hI w0 _ _ Go.Sx.own).mono ?_;rintro en w1 ⟨v1,rfl,hs1⟩;obtain ⟨cl,rfl,hcl,hone,hq,hs2⟩:=ztV hs1;have Hq:=hid hq;clear hs hs1 hq;go_wp2_with (refine z09 (w0:=w0) (cells:=cl) (old:=zsP) rfl rfl rfl rfl Go.Sx.own (by rw [hcl];rfl) (by rw [hcl];kernel_rfl) hone ?_;intro w5 hs5);refine bodyPost_ret (z3p Tryz.results19 rfl hs5 Tryz.underlying45 rfl (by rw [hcl];kernel_rfl)) rfl ?_;exact ⟨_,rfl,zvy hcl hone Hq.out z3⟩
def zwn (c:Cf) (s:Sc) (v:Value):HP:=ex fun a:Value=>ex fun b:Value=>pur (v=.tuple #[a,b,.int .i64 0])*(stW (Wd.run c s.steps.toNat (zQc c s)).K.count (Wd.run c s.steps.toNat (zQc c s)).K.cycle b*z7 a (Wd.evs c s.steps.toNat (zQc c s)))
theorem zvM {c : Cf} {s : Sc} {w0 w : World} {F : HP} {a : Value} {cl : List Value} (h1 : cl.length = 29) (h2 : cl.all (·.oneCell') = true) (h3 : cl[0]? = some (.int .u64 (Wd.run c s.steps.toNat (zQc c s)).K.count) ∧ cl[1]? = some (.int .u64 (Wd.run c s.steps.toNat (zQc c s)).K.cycle)) (hs : Sat w0 w (any * (z7 a (Wd.evs c s.steps.toNat (zQc c s)) * F))) : Sat w0 w (zwn c s (.tuple #[a,.agg cl.toArray,.int .i64 0]) * F) :=
 Sat.ex_in a (Sat.ex_in (.agg cl.toArray) ((Sat.pur_in rfl (zvy h1 h2 h3 hs)).perm (by ac_rfl)))
theorem zvo {c : Cf} {s : Sc} {w0 w : World} {F : HP} {v : Value} (hs : Sat w0 w (zwn c s v * F)) : ∃ a, ∃ cl : List Value,v = .tuple #[a,.agg cl.toArray,.int .i64 0] ∧ cl.length = 29 ∧ cl.all (·.oneCell') = true ∧ (cl[0]? = some (.int .u64 (Wd.run c s.steps.toNat (zQc c s)).K.count) ∧ cl[1]? = some (.int .u64 (Wd.run c s.steps.toNat (zQc c s)).K.cycle)) ∧ Sat w0 w (z7 a (Wd.evs c s.steps.toNat (zQc c s)) * (F * any)):=by
 obtain ⟨a,h⟩:=hs.ex_out;obtain ⟨b,h⟩:=h.ex_out;obtain ⟨e,h⟩:=(h.perm (zb _ _ _)).pur_out;obtain ⟨cl,rfl,h1,h2,h3,h4⟩:=ztV (h.perm (zb _ _ _));exact ⟨a,cl,e,h1,h2,h3,h4.perm (by ac_rfl)⟩
theorem zw9 (v u:Value) (c:Cf) (s:Sc) (rg:z6B c) (w0:World) (hT:Tab w0) (hr:z8I w0 v c) (hq:zQa w0 u s) (ht:∀ x∈s.tape,zG x) (he:wdE c s=0) :
  Calls Tryz.prog 7 #[v,u] w0 (Ret w0 fun v'=>zwn c s v'):=by
 have hs:=Sat.start w0;obtain ⟨hok,hse⟩:=zs1 he;have hN:=hid (fun (w:World) (h:Sat w0 w any)=>zsd v u c s rg w (hr.later h) (hq.later h) hok hse);have hW:=zrI (z4E rg hok) hse ht;obtain ⟨z1,z2,yz3,yz4,_⟩:=zqE hse;have hX:=hid (fun (g b:Nat) (y:Fx) (ta:Option Addr) (tc:Nat) (w:World) (G:HP) (hs:Sat w0 w (wdP g b y c ta tc (zQc c s)*G))=>zs2 g b y c ta tc (zQc c s) hW yz4 s.steps (by omega) w0 w hT G hs);have hS:=hid (fun (g b:Nat) (y:Fx) (ta:Option Addr) (tc:Nat) (w:World) (G:HP) (hs:Sat w0 w (wdP g b y c ta tc (Wd.run c s.steps.toNat (zQc c s))*G))=>zvq g b y c ta tc _ (zrk s.steps.toNat hW) w0 w G hs);obtain ⟨ta,la,sa,qa,ma,tc,lc,sc,qc,mc,rfl,_,_,_,_,_⟩:=hr.form;obtain ⟨aa,ac,ta2,tc2,rfl,_,_⟩:=hq;clear hr he hok hse hT ht hW
 go_enter Tryz.func7,Tryz.ntmps7
 go_wp2_with fail;refine (hN.out _ z3).mono ?_;rintro en w1 ⟨v1,rfl,hp⟩;obtain ⟨g,b,y,ta3,tc3,rfl,hp2⟩:=zrJ (hp.perm (zz _).symm);have hs2:=Sat.over (w0:=w0) z6 hp2;clear hs hp hp2;go_wp2_with fail;refine (hX.out g b y ta3 tc3 _ _ Go.Sx.own).mono ?_;rintro en w2 ⟨v2,rfl,hs3⟩;obtain ⟨ea,ec,rfl⟩:=hs3.slice_form;clear hs2;go_wp2_with fail;refine (hS.out g b y ta3 tc3 _ _ Go.Sx.own).mono ?_;rintro en w3 ⟨v3,rfl,hs4⟩;obtain ⟨cl,rfl,hcl,hone,hq,hs5⟩:=ztV hs4;have Hq:=hid hq;clear hs3 hs4 hq;go_wp2_with (refine z09 (w0:=w0) (cells:=cl) (old:=zsP) rfl rfl rfl rfl Go.Sx.own (by rw [hcl];rfl) (by rw [hcl];kernel_rfl) hone ?_;intro w6 hs6);refine bodyPost_ret (zqv Tryz.results7 rfl hs6 Tryz.underlying45 rfl (by rw [hcl];kernel_rfl)) rfl ?_;refine ⟨_,rfl,(zvM (F:=emp) (a:=.slice ea (Wd.evs c s.steps.toNat (zQc c s)).length ec) hcl hone Hq.out ?_).perm (zz _)⟩;exact z3
structure zez (c:Cf):Prop where
 t:c.ts.length≤70
 l:c.ls.length≤20
 s:c.sems.length≤40
 q:c.queues.length≤40
 m:c.timers.length≤40
 tc:∀ t,t<c.ts.length→(tcg c t).code.length≤300
 lc:∀ t,t<c.ls.length→(lcg c t).code.length≤300
def znV (w0:World) (P:HP) (Q:Prop) (e:Ending) (w':World):Prop:=∃ z:Bool,e=.returned (.bool z)∧Sat w0 w' P∧(z=false→Q)
theorem zik (v:Value) (c:Cf) (w0:World) (hr:z8I w0 v c) :
  Calls Tryz.prog 22 #[v] w0 (znV w0 emp (zez c)):=by
 have hs:=Sat.start w0;obtain ⟨tv,lv,sv,qv,mv,rfl,⟨T,hT,hTn,hTi⟩,⟨L,hL,hLn,hLi⟩,hS,hQ,hM⟩:=hr.out;clear hr;obtain ⟨sa,scap,_,_,rfl,_⟩:=hS;obtain ⟨qa,qcap,_,_,rfl,_⟩:=hQ;obtain ⟨ma,mcap,_,_,rfl,_⟩:=hM;obtain ⟨ta,tcap,tg,tto,rfl,_,_,hta,htc⟩:=hT;obtain ⟨la,lcap,lg',lo,rfl,_,_,hla,hlc⟩:=hL;rw [hTn,hLn];have Hta:=hid hta;have Htc:=hid htc;have Hla:=hid hla;have Hlc:=hid hlc;have HTn:=hid hTn;have HLn:=hid hLn;have HTi:=hid hTi;have HLi:=hid hLi;clear hta htc hla hlc hTn hLn hTi hLi
 by_cases g1:70<c.ts.length
 ·have d1:decide (70<c.ts.length)=true:=decide_eq_true g1;have d2:decide ((70:Int)<(c.ts.length:Int))=true:=by simp;omega
  clear g1
  go_enter Tryz.func22,Tryz.ntmps22
  go_wp2_with fail;go_ret;exact ⟨true,rfl,z3,fun h=>by cases h⟩
 have d1:decide (70<c.ts.length)=false:=decide_eq_false g1;have e1:decide ((70:Int)<(c.ts.length:Int))=false:=by simp;omega
 by_cases g2:20<c.ls.length
 ·have d2:decide (20<c.ls.length)=true:=decide_eq_true g2;have e2:decide ((20:Int)<(c.ls.length:Int))=true:=by simp;omega
  go_enter Tryz.func22,Tryz.ntmps22
  go_wp2_with fail;go_ret;exact ⟨true,rfl,z3,fun h=>by cases h⟩
 have d2:decide (20<c.ls.length)=false:=decide_eq_false g2;have e2:decide ((20:Int)<(c.ls.length:Int))=false:=by simp;omega
 by_cases g3:40<c.sems.length
 ·have d3:decide (40<c.sems.length)=true:=decide_eq_true g3;have e3:decide ((40:Int)<(c.sems.length:Int))=true:=by simp;omega
  go_enter Tryz.func22,Tryz.ntmps22
  go_wp2_with fail;go_ret;exact ⟨true,rfl,z3,fun h=>by cases h⟩
 have d3:decide (40<c.sems.length)=false:=decide_eq_false g3;have e3:decide ((40:Int)<(c.sems.length:Int))=false:=by simp;omega
 by_cases g4:40<c.queues.length
 ·have d4:decide (40<c.queues.length)=true:=decide_eq_true g4;have e4:decide ((40:Int)<(c.queues.length:Int))=true:=by simp;omega
  go_enter Tryz.func22,Tryz.ntmps22
  go_wp2_with fail;go_ret;exact ⟨true,rfl,z3,fun h=>by cases h⟩
 have d4:decide (40<c.queues.length)=false:=decide_eq_false g4;have e4:decide ((40:Int)<(c.queues.length:Int))=false:=by simp;omega
 by_cases g5:40<c.timers.length
 ·have d5:decide (40<c.timers.length)=true:=decide_eq_true g5;have e5:decide ((40:Int)<(c.timers.length:Int))=true:=by simp;omega
  go_enter Tryz.func22,Tryz.ntmps22
  go_wp2_with fail;go_ret;exact ⟨true,rfl,z3,fun h=>by cases h⟩
 have d5:decide (40<c.timers.length)=false:=decide_eq_false g5;have e5:decide ((40:Int)<(c.timers.length:Int))=false:=by simp;omega
 go_enter Tryz.func22,Tryz.ntmps22
 go_wp2_with fail;refine z9 (w0:=w0) ?_;intro ww hsw;clear hs
 go_loopw [3,4] (fun nv i wr=>∃ k n:Nat,k≤c.ts.length∧n≤300*k∧nv=.int .i64 n∧i=.int .i64 k∧(∀ j,j<k→(tcg c j).code.length≤300)∧Sat w0 wr (pts w0.heap.size 0 [.slice ta c.ts.length tcap,.slice la c.ls.length lcap,.int .i64 c.mutexes,.slice sa c.sems.length scap,.slice qa c.queues.length qcap,.slice ma c.timers.length mcap,.int .i64 c.table,.int .u32 c.mask,.int .u32 c.filter,.int .i64 c.charge,.int .u64 c.cycle,.int .u64 c.count]*any)) (fun _ i _=>c.ts.length-(intOf i).toNat)
 case atStart=>exact ⟨0,0,Nat.zero_le _,Nat.zero_le _,rfl,rfl,fun j hj=>absurd hj (by omega),z3⟩
 case round =>
  obtain ⟨k,n,hk,hn,rfl,rfl,hb,hsr⟩:=hrel;clear hsw;have Hb:=hid hb;clear hb
  by_cases hlt:k<c.ts.length
  ·have f3:decide (k<c.ts.length)=true:=decide_eq_true hlt;have i3:(k:Int)<(c.ts.length:Int):=by omega
   have hTl:=HTn.out;obtain rfl:=Hta.out (by intro h;simp [h] at hTl;omega);have hit:=HTi.out k hlt;obtain ⟨u,hu⟩:∃ u,u=T.getD k tv0:=⟨_,rfl⟩;have oc:∀ c' y,c'<6→(z8Q.enc u)[c']?=some y→w0.cell? ⟨tg,tto+k*6+c',none⟩=some y:=fun c' y hc6 he=>z2i Htc.out (by omega) hc6 (by show (z8Q.enc (T.getD k tv0))[c']?=some y;rw [← hu];exact he);rw [← hu] at hit;have hcl:u.cn=(tcg c k).code.length:=hit.code.caps.1;haveI o5:Old w0 tg (tto+k*6+5) (.slice u.ca u.cn u.cc):=⟨oc 5 _ (by decide) rfl⟩;clear oc hu hTl hit
   by_cases hz0:300<u.cn
   ·have f4:decide (300<u.cn)=true:=decide_eq_true hz0;have i4:decide ((300:Int)<(u.cn:Int))=true:=by simp;omega
    clear hcl;go_wp2_with fail;go_ret;exact ⟨true,rfl,z3,fun h=>by cases h⟩
   ·have f4:decide (300<u.cn)=false:=decide_eq_false hz0;have i4:decide ((300:Int)<(u.cn:Int))=false:=by simp;omega
    have hb2:Hid (∀ j,j<k+1→(tcg c j).code.length≤300):=hid fun j hj=>by
     rcases Nat.lt_or_ge j k with h | h
     ·exact Hb.out j h
     ·obtain rfl:j=k:=by omega
      omega
    clear hcl;go_wp2_with fail;go_roundw
    case rel=>exact ⟨k+1,n+u.cn,by omega,by omega,by go_num,by go_num,hb2.out,z3⟩
    case measure=>simp [intOf];omega
  ·have hkl:k=c.ts.length:=by omega
   subst hkl;have f3:decide (c.ts.length<c.ts.length)=false:=by simp
   clear hlt hk;go_wp2_with fail;refine z9 (w0:=w0) ?_;intro w3 hs3;clear hsr
   go_loopw [3,5] (fun nv i wr=>∃ k n:Nat,k≤c.ls.length∧n≤300*70+300*k∧nv=.int .i64 n∧i=.int .i64 k∧(∀ j,j<k→(lcg c j).code.length≤300)∧Sat w0 wr (pts w0.heap.size 0 [.slice ta c.ts.length tcap,.slice la c.ls.length lcap,.int .i64 c.mutexes,.slice sa c.sems.length scap,.slice qa c.queues.length qcap,.slice ma c.timers.length mcap,.int .i64 c.table,.int .u32 c.mask,.int .u32 c.filter,.int .i64 c.charge,.int .u64 c.cycle,.int .u64 c.count]*any)) (fun _ i _=>c.ls.length-(intOf i).toNat)
   case atStart=>exact ⟨0,n,Nat.zero_le _,by omega,rfl,rfl,fun j hj=>absurd hj (by omega),z3⟩
   case round =>
    obtain ⟨k,n,hk,hn,rfl,rfl,hb,hsr⟩:=hrel;clear hs3;have Hb2:=hid hb;clear hb
    by_cases hlt:k<c.ls.length
    ·have f3:decide (k<c.ls.length)=true:=decide_eq_true hlt;have i3:(k:Int)<(c.ls.length:Int):=by omega
     have hLl:=HLn.out;obtain rfl:=Hla.out (by intro h;simp [h] at hLl;omega);have hit:=HLi.out k hlt;obtain ⟨u,hu⟩:∃ u,u=L.getD k lv0:=⟨_,rfl⟩;have oc:∀ c' y,c'<2→(z8P.enc u)[c']?=some y→w0.cell? ⟨lg',lo+k*2+c',none⟩=some y:=fun c' y hc6 he=>z2i Hlc.out (by omega) hc6 (by show (z8P.enc (L.getD k lv0))[c']?=some y;rw [← hu];exact he);rw [← hu] at hit;have hcl:u.cn=(lcg c k).code.length:=hit.code.caps.1;haveI o5:Old w0 lg' (lo+k*2+1) (.slice u.ca u.cn u.cc):=⟨oc 1 _ (by decide) rfl⟩;clear oc hu hLl hit
     by_cases hz0:300<u.cn
     ·have f4:decide (300<u.cn)=true:=decide_eq_true hz0;have i4:decide ((300:Int)<(u.cn:Int))=true:=by simp;omega
      clear hcl;go_wp2_with fail;go_ret;exact ⟨true,rfl,z3,fun h=>by cases h⟩
     ·have f4:decide (300<u.cn)=false:=decide_eq_false hz0;have i4:decide ((300:Int)<(u.cn:Int))=false:=by simp;omega
      have hb2:Hid (∀ j,j<k+1→(lcg c j).code.length≤300):=hid fun j hj=>by
       rcases Nat.lt_or_ge j k with h | h
       ·exact Hb2.out j h
       ·obtain rfl:j=k:=by omega
        omega
      clear hcl;go_wp2_with fail;go_roundw
      case rel=>exact ⟨k+1,n+u.cn,by omega,by omega,by go_num,by go_num,hb2.out,z3⟩
      case measure=>simp [intOf];omega
    ·have hkl:k=c.ls.length:=by omega
     subst hkl;have f3:decide (c.ls.length<c.ls.length)=false:=by simp
     clear hlt hk;go_wp2_with fail;go_ret;exact ⟨_,rfl,z3,fun _=>⟨by omega,by omega,by omega,by omega,by omega,Hb.out,Hb2.out⟩⟩
theorem z9a (v:Value) (c:Cf) (n:Int) (w0:World) (hr:z8I w0 v c) :
  Calls Tryz.prog 12 #[v,.int .i64 n] w0 (znV w0 emp (zez c∧n≤200)):=by
 have hs:=Sat.start w0;have hA:=hid (fun (w:World) (h:Sat w0 w any)=>zik v c w (hr.later h));obtain ⟨tv,lv,sv,qv,mv,rfl,⟨T,hT,hTn,hTi⟩,⟨L,hL,hLn,hLi⟩,hS,hQ,hM⟩:=hr.out;clear hr;obtain ⟨sa,scap,_,_,rfl,_⟩:=hS;obtain ⟨qa,qcap,_,_,rfl,_⟩:=hQ;obtain ⟨ma,mcap,_,_,rfl,_⟩:=hM;obtain ⟨ta,tcap,tg,tto,rfl,_,_,hta,htc⟩:=hT;obtain ⟨la,lcap,lg',lo,rfl,_,_,hla,hlc⟩:=hL;rw [hTn,hLn] at hA;rw [hTn,hLn];have Hta:=hid hta;have Htc:=hid htc;have Hla:=hid hla;have Hlc:=hid hlc;have HTn:=hid hTn;have HLn:=hid hLn;have HTi:=hid hTi;have HLi:=hid hLi;clear hta htc hla hlc hTn hLn hTi hLi
 go_enter Tryz.func12,Tryz.ntmps12
 go_wp2_with fail;refine (hA.out _ z3).mono ?_;rintro en w1 ⟨z,rfl,hs1,hz⟩;have hs2:=Sat.past (w0:=w0) z6 hs1;have Hz:=hid hz;clear hs1 hs hz hA
 cases z
 case true =>
  go_wp2_with fail;go_ret;exact ⟨true,rfl,z3,fun h=>by cases h⟩
 case false =>
  have hp:=Hz.out rfl;have g1:=hp.t;have g2:=hp.l;have Hp:=hid hp;clear hp Hz;go_wp2_with fail;refine z9 (w0:=w0) ?_;intro ww hsw;clear hs2
  go_loopw [5,15] (fun nv i wr=>∃ k m:Nat,k≤c.ts.length∧m≤1000*k∧nv=.int .i64 m∧i=.int .i64 k∧Sat w0 wr (pts w0.heap.size 0 [.slice ta c.ts.length tcap,.slice la c.ls.length lcap,.int .i64 c.mutexes,.slice sa c.sems.length scap,.slice qa c.queues.length qcap,.slice ma c.timers.length mcap,.int .i64 c.table,.int .u32 c.mask,.int .u32 c.filter,.int .i64 c.charge,.int .u64 c.cycle,.int .u64 c.count]*any)) (fun _ i _=>c.ts.length-(intOf i).toNat)
  case atStart=>exact ⟨0,0,Nat.zero_le _,Nat.zero_le _,rfl,rfl,z3⟩
  case round =>
   obtain ⟨k,m,hk,hm,rfl,rfl,hsr⟩:=hrel;clear hsw
   by_cases hlt:k<c.ts.length
   ·have f3:decide (k<c.ts.length)=true:=decide_eq_true hlt;have i3:(k:Int)<(c.ts.length:Int):=by omega
    have hTl:=HTn.out;obtain rfl:=Hta.out (by intro h;simp [h] at hTl;omega);obtain ⟨u,hu⟩:∃ u,u=T.getD k tv0:=⟨_,rfl⟩;have oc:∀ c' y,c'<6→(z8Q.enc u)[c']?=some y→w0.cell? ⟨tg,tto+k*6+c',none⟩=some y:=fun c' y hc6 he=>z2i Htc.out (by omega) hc6 (by show (z8Q.enc (T.getD k tv0))[c']?=some y;rw [← hu];exact he);haveI o0:Old w0 tg (tto+k*6) (.int .i64 u.lev):=⟨oc 0 _ (by decide) rfl⟩;haveI o1:Old w0 tg (tto+k*6+1) (.int .i64 u.off):=⟨oc 1 _ (by decide) rfl⟩;haveI o2:Old w0 tg (tto+k*6+2) (.int .i64 u.per):=⟨oc 2 _ (by decide) rfl⟩;haveI o3:Old w0 tg (tto+k*6+3) (.int .i64 u.dl):=⟨oc 3 _ (by decide) rfl⟩;haveI o4:Old w0 tg (tto+k*6+4) (.int .i64 u.mem):=⟨oc 4 _ (by decide) rfl⟩;haveI o5:Old w0 tg (tto+k*6+5) (.slice u.ca u.cn u.cc):=⟨oc 5 _ (by decide) rfl⟩;clear oc hu hTl;have hq:∀ x:Int,0≤(if 1000<(if x<0 then 0 else x) then 1000 else if x<0 then 0 else x)∧(if 1000<(if x<0 then 0 else x) then 1000 else if x<0 then 0 else x)≤1000:=fun x=>by split<;>split<;>omega
    have Hq:=hid (hq u.mem);clear hq;go_wp2_with fail;have Hq:=Hq.out;generalize (if 1000<(if u.mem<0 then 0 else u.mem) then (1000:Int) else if u.mem<0 then 0 else u.mem)=q at *;obtain ⟨q,rfl⟩:=Int.eq_ofNat_of_zero_le Hq.1;refine ⟨⟨k+1,m+q,by omega,by omega,by go_num,by go_num,z3⟩,?_⟩;simp [intOf];omega
   ·have hkl:k=c.ts.length:=by omega
    subst hkl;have f3:decide (c.ts.length<c.ts.length)=false:=by simp
    clear hlt hk;go_wp2_with fail;refine z9 (w0:=w0) ?_;intro w3 hs3;clear hsr
    go_loopw [5,29] (fun nv i wr=>∃ k m:Nat,k≤c.ls.length∧m≤70000+1000*k∧nv=.int .i64 m∧i=.int .i64 k∧Sat w0 wr (pts w0.heap.size 0 [.slice ta c.ts.length tcap,.slice la c.ls.length lcap,.int .i64 c.mutexes,.slice sa c.sems.length scap,.slice qa c.queues.length qcap,.slice ma c.timers.length mcap,.int .i64 c.table,.int .u32 c.mask,.int .u32 c.filter,.int .i64 c.charge,.int .u64 c.cycle,.int .u64 c.count]*any)) (fun _ i _=>c.ls.length-(intOf i).toNat)
    case atStart=>exact ⟨0,m,Nat.zero_le _,by omega,rfl,rfl,z3⟩
    case round =>
     obtain ⟨k,m,hk,hm,rfl,rfl,hsr⟩:=hrel;clear hs3
     by_cases hlt:k<c.ls.length
     ·have f3:decide (k<c.ls.length)=true:=decide_eq_true hlt;have i3:(k:Int)<(c.ls.length:Int):=by omega
      have hLl:=HLn.out;obtain rfl:=Hla.out (by intro h;simp [h] at hLl;omega);obtain ⟨u,hu⟩:∃ u,u=L.getD k lv0:=⟨_,rfl⟩;have oc:∀ c' y,c'<2→(z8P.enc u)[c']?=some y→w0.cell? ⟨lg',lo+k*2+c',none⟩=some y:=fun c' y hc6 he=>z2i Hlc.out (by omega) hc6 (by show (z8P.enc (L.getD k lv0))[c']?=some y;rw [← hu];exact he);haveI o0:Old w0 lg' (lo+k*2) (.int .i64 u.mem):=⟨oc 0 _ (by decide) rfl⟩;haveI o1:Old w0 lg' (lo+k*2+1) (.slice u.ca u.cn u.cc):=⟨oc 1 _ (by decide) rfl⟩;clear oc hu hLl;have hq:∀ x:Int,0≤(if 1000<(if x<0 then 0 else x) then 1000 else if x<0 then 0 else x)∧(if 1000<(if x<0 then 0 else x) then 1000 else if x<0 then 0 else x)≤1000:=fun x=>by split<;>split<;>omega
      have Hq:=hid (hq u.mem);clear hq;go_wp2_with fail;have Hq:=Hq.out;generalize (if 1000<(if u.mem<0 then 0 else u.mem) then (1000:Int) else if u.mem<0 then 0 else u.mem)=q at *;obtain ⟨q,rfl⟩:=Int.eq_ofNat_of_zero_le Hq.1;refine ⟨⟨k+1,m+q,by omega,by omega,by go_num,by go_num,z3⟩,?_⟩;simp [intOf];omega
     ·have hkl:k=c.ls.length:=by omega
      subst hkl;have f3:decide (c.ls.length<c.ls.length)=false:=by simp
      clear hlt hk
      by_cases hn:200<n
      ·have f4:decide (200<n)=true:=decide_eq_true hn;go_wp2_with fail;go_ret;exact ⟨true,rfl,z3,fun h=>by cases h⟩
      ·have f4:decide (200<n)=false:=decide_eq_false hn;go_wp2_with fail;go_ret
       first | exact ⟨_,rfl,z3,fun _=>Hp.out⟩ | exact ⟨_,rfl,z3,fun _=>⟨Hp.out,by omega⟩⟩
theorem zs9 (v u:Value) (c:Cf) (s:Sc) (w0:World) (hr:z8I w0 v c) (hq:zQa w0 u s) :
  Calls Tryz.prog 5 #[v,u] w0 (znV w0 emp (zez c∧s.steps≤200∧s.ar.length≤300∧s.tape.length≤300)):=by
 have hs:=Sat.start w0;have hG:=hid (fun (n:Int) (w:World) (h:Sat w0 w any)=>z9a v c n w (hr.later h));obtain ⟨ta,la,sa,qa,ma,tc,lc,sc,qc,mc,rfl,_,_,_,_,_⟩:=hr.form;obtain ⟨aa,ac,ta2,tc2,rfl,_,_⟩:=hq;obtain ⟨st,A,T⟩:=s;clear hr;dsimp only;have k3:∃ b3:Bool,decide (300<A.length)=b3∧decide ((300:Int)<(A.length:Int))=b3∧(b3=false→A.length≤300):=⟨_,rfl,by simp;omega,fun h=>by simpa using h⟩;have k4:∃ b4:Bool,decide (300<T.length)=b4∧decide ((300:Int)<(T.length:Int))=b4∧(b4=false→T.length≤300):=⟨_,rfl,by simp;omega,fun h=>by simpa using h⟩;obtain ⟨b3,d3,e3,H3⟩:=k3;obtain ⟨b4,d4,e4,H4⟩:=k4;have H3:=hid H3;have H4:=hid H4
 cases b3<;>cases b4
 all_goals
  go_enter Tryz.func5,Tryz.ntmps5
  go_wp2_with fail
  all_goals
   refine (hG.out _ _ z3).mono ?_;rintro en w1 ⟨z,rfl,hp,hz⟩;have hs1:=Sat.past (w0:=w0) z6 hp;have Hz:=hid hz;clear hp hs hz
   cases z
   all_goals
    go_wp2_with fail;go_ret
    first
     | exact ⟨true,rfl,z3,fun h=>by cases h⟩
     | exact ⟨false,rfl,z3,fun _=>⟨(Hz.out (by trivial)).1,by have:=(Hz.out (by trivial)).2;omega,H3.out (by trivial),H4.out (by trivial)⟩⟩
def ztw (A:Au):List Ev→Option Au
 | []=>some A
 | e::l=>match Go.Au.nxt A e with
  | none=>none
  | some B=>ztw B l
theorem ztZ:∀ (l m:List Ev) (A:Au),ztw A (l++m)=(ztw A l).bind fun B=>ztw B m
 | [],m,A=>rfl
 | e::l,m,A=>by
  rw [List.cons_append];show (match Go.Au.nxt A e with | none=>none | some B=>ztw B (l++m))=_;show _=(match Go.Au.nxt A e with | none=>none | some B=>ztw B l).bind _
  cases Go.Au.nxt A e with
  | none=>rfl
  | some B=>exact ztZ l m B
theorem zu0 {A B C:Au} {l m:List Ev} (h:ztw A l=some B) (h2:ztw B m=some C):ztw A (l++m)=some C:=by
 rw [ztZ,h];exact h2
theorem zvl {A:Au} {e:Ev} (h:zm5 A e=true):ztw A [e]=some (znJ A e):=by
 show (match Go.Au.nxt A e with | none=>none | some B=>ztw B [])=_;unfold Go.Au.nxt;rw [if_pos h];rfl
theorem ztf:∀ (l:List Ev) {A B:Au},ztw A l=some B→chk A l=none
 | [],_,_,_=>rfl
 | e::l,A,B,h=>by
  have h : (match Go.Au.nxt A e with | none=>none | some B=>ztw B l) = some B:=h;show (match Go.Au.nxt A e with | none=>some 0 | some B=>(chk B l).map (· + 1)) = none
  cases hn:Go.Au.nxt A e with
  | none=>rw [hn] at h;cases h
  | some C =>
   rw [hn] at h;dsimp only at h ⊢;rw [ztf l h];rfl
def ztv (A:Au) (e:Ev):Bool:=decide (e.k≠24) && ((decide (A.due=du0) || decide (A.due=znZ e)) && zob { A with due:=du0 } e.k.toNat e.a e.b e.v (decide (A.due=znZ e)))
def Rn:Au→List Ev→Au→Prop
 | A,[],B=>B=A
 | A,e::l,B=>ztv A e=true∧Rn (znJ A e) l B
theorem Rn.snoc:∀ {l:List Ev} {A B:Au} {e:Ev},Rn A l B→ztv B e=true→Rn A (l++[e]) (znJ B e)
 | [],A,B,e,h,h2=>by obtain rfl:B=A:=h;exact ⟨h2,rfl⟩
 | x::l,A,B,e,h,h2=>⟨h.1,Rn.snoc h.2 h2⟩
theorem zuM:∀ {l:List Ev} {A B:Au} {co cy0 cy1:Int},Rn A l B→A.last.k≠24→A.last.co≤co→A.last.cy≤cy0→(∀ e∈l,okE e=true∧e.co=co)→zbn cy0 l cy1 →
  ztw A l=some B∧B.last.k≠24∧B.last.co≤co∧B.last.cy≤cy1
 | [],A,B,co,cy0,cy1,h,h1,h2,h3,_,h5=>by
  obtain rfl:B=A:=h;have h5:cy0≤cy1:=h5;exact ⟨rfl,h1,h2,by omega⟩
 | e::l,A,B,co,cy0,cy1,h,h1,h2,h3,h4,h5=>by
  obtain ⟨r1,r2⟩:=h;unfold ztv at r1;simp only [Bool.and_eq_true,decide_eq_true_eq] at r1;obtain ⟨r0,r1,r3⟩:=r1;obtain ⟨o1,o2⟩:=h4 e (List.mem_cons_self ..);have hk:zm5 A e=true:=by
   unfold zm5 zlU;simp only [Bool.and_eq_true,decide_eq_true_eq];exact ⟨⟨⟨⟨⟨o1,h1⟩,by omega⟩,by have:=h5.1;omega⟩,r1⟩,r3⟩
  have hn:Go.Au.nxt A e=some (znJ A e):=by unfold Go.Au.nxt;rw [if_pos hk]
  have:=zuM (l:=l) (A:=znJ A e) (co:=co) (cy0:=e.cy) (cy1:=cy1) r2 r0 (by show e.co≤co;omega) (Int.le_refl _) (fun x hx=>h4 x (List.mem_cons_of_mem _ hx)) h5.2;refine ⟨?_,this.2⟩;show (match Go.Au.nxt A e with | none=>none | some B=>ztw B l)=some B;rw [hn];exact this.1
theorem ztU {A:Au} {kd a b v:Nat} {cy co:Int} (hd:A.due=du0) (hk:1≤kd∧kd<24) (h:zob A kd a b v false=true):ztv A ⟨kd,cy,co,a,b,v⟩=true:=by
 have e1:({ A with due:=du0 }:Au)=A:=by rw [← hd]
 have e2:decide (A.due=znZ ⟨kd,cy,co,a,b,v⟩)=false:=by
  rw [decide_eq_false_iff_not,hd];intro e;have:(0:Int)=(kd:Int):=congrArg Du.k e;omega
 unfold ztv;rw [e1,e2,hd];simp only [decide_true,Bool.true_or,Bool.true_and,Bool.and_eq_true,decide_eq_true_eq];refine ⟨?_,?_⟩
 ·show ((kd:Nat):Int)≠24;omega
 ·show zob A ((kd:Nat):Int).toNat a b v false=true;rw [Int.toNat_natCast];exact h
theorem zuf {A:Au} {kd a b v:Nat} {cy co:Int} (hd:A.due=⟨kd,a,b⟩) (hk:1≤kd∧kd<24) (h:zob { A with due:=du0 } kd a b v true=true):ztv A ⟨kd,cy,co,a,b,v⟩=true:=by
 have e2:decide (A.due=znZ ⟨kd,cy,co,a,b,v⟩)=true:=by rw [decide_eq_true_eq,hd];rfl
 unfold ztv;rw [e2];simp only [Bool.or_true,Bool.true_and,Bool.and_eq_true,decide_eq_true_eq];refine ⟨?_,?_⟩
 ·show ((kd:Nat):Int)≠24;omega
 ·show zob _ ((kd:Nat):Int).toNat a b v true=true;rw [Int.toNat_natCast];exact h
def zv0 (s:Int):Int:=if s=0 then 0 else if s=1 then 1 else if s≤6 then 2 else 3
structure TAg (t:Ts) (x:Tk):Prop where
 st:x.st=zv0 t.st
 late:x.late=t.late
 on:2≤t.st→t.st≤6→(x.on:Int)=t.on
 job:(x.job:Int)=t.job
 lev:x.lev=0∨x.lev=t.lev+1
def zuj (l:List Int) (m:Nat):Int:=if m<l.length then (if lg l m=255 then 0 else lg l m+1) else 0
structure Ag (n:Nat) (act:Int) (pend:Nat→Bool) (run:Int) (T:Nat→Ts) (ow:List Int) (A:Au):Prop where
 lt:A.ts.length=64
 lo:A.ow.length=32
 lp:A.pn.length=16
 isr:A.isr=if act=255 then 0 else act+1
 run:A.run=if run=255 then 0 else run+1
 ts:∀ t,t<n→TAg (T t) (z4y A t)
 tz:∀ t,n≤t→(z4y A t).st≠1
 ow:∀ m,m<32→Go.Au.z3O A m=zuj ow m
 pn:∀ j,j<16→A.pn.getD j false=pend j
section
variable {n:Nat} {act:Int} {pend:Nat→Bool} {run:Int} {T T':Nat→Ts} {ow ow':List Int} {A B:Au}
theorem Ag.same (h:Ag n act pend run T ow A) (e1:B.ts=A.ts) (e2:B.ow=A.ow) (e3:B.pn=A.pn) (e4:B.isr=A.isr) (e5:B.run=A.run):Ag n act pend run T ow B:=by
 obtain ⟨a1,a2,a3,a4,a5,a6,a7,a8,a9⟩:=h;exact ⟨by rw [e1];exact a1,by rw [e2];exact a2,by rw [e3];exact a3,by rw [e4];exact a4,by rw [e5];exact a5,
  fun t ht=>by unfold z4y;rw [e1];exact a6 t ht,fun t ht=>by unfold z4y;rw [e1];exact a7 t ht,fun m hm=>by unfold Go.Au.z3O;rw [e2];exact a8 m hm,fun j hj=>by rw [e3];exact a9 j hj⟩
theorem Ag.congT (h:Ag n act pend run T ow A) (e:∀ t,t<n→TAg (T' t) (z4y A t)):Ag n act pend run T' ow A:={ h with ts:=e }
theorem ztW (l:List Tk) (t u:Nat) (y:Tk) (ht:t<l.length):tkg (l.set t y) u=if u=t then y else tkg l u:=by
 unfold tkg
 by_cases e:u=t
 ·subst e;rw [if_pos rfl];simp [List.getD,ht]
 ·rw [if_neg e];simp [List.getD,List.getElem?_set_ne (Ne.symm e)]
theorem Ag.setT (h:Ag n act pend run T ow A) {t:Nat} (ht:t<n) (hn:n≤64) {x:Ts} {y:Tk} (hx:TAg x y):Ag n act pend run (upd T t x) ow (setT A t y):=by
 have hl:t<A.ts.length:=by rw [h.lt];omega
 refine ⟨by show (A.ts.set t y).length=64;rw [List.length_set];exact h.lt,h.lo,h.lp,h.isr,h.run,fun u hu=>?_,fun u hu=>?_,h.ow,h.pn⟩
 ·show TAg (upd T t x u) (tkg (A.ts.set t y) u);rw [ztW _ _ _ _ hl];unfold upd
  by_cases e:u=t
  ·rw [if_pos e,if_pos e];exact hx
  ·rw [if_neg e,if_neg e];exact h.ts u hu
 ·show (tkg (A.ts.set t y) u).st≠1;rw [ztW _ _ _ _ hl,if_neg (by omega)];exact h.tz u hu
end
theorem zue {f kd:Nat} (hf:f=4294967295) (hk:1≤kd∧kd≤24):z1l f kd=true:=by
 subst hf;obtain ⟨h1,h2⟩:=hk;have:∀ k:Fin 25,1≤k.val→z1l 4294967295 k.val=true:=by decide
 exact this ⟨kd,by omega⟩ h1
section
variable {c:Cf} {K:Kn} {A0 A:Au}
theorem ztL (hf:c.filter=4294967295) {kd:Nat} (hk:1≤kd∧kd≤24) (a b v:Int):(K.tell c kd a b v).told=K.told++[⟨kd,K.cycle,K.count,a.toNat,b.toNat,v.toNat⟩]:=by
 unfold Kn.tell;rw [if_pos (zue hf hk)]
def after (A:Au) (K:Kn) (kd:Nat) (a b v:Int):Au:=znJ A ⟨kd,K.cycle,K.count,a.toNat,b.toNat,v.toNat⟩
theorem zt6 (hf:c.filter=4294967295) (h:Rn A0 K.told A) (hd:A.due=du0) {kd:Nat} (hk:1≤kd∧kd<24) {a b v:Int} (hr:zob A kd a.toNat b.toNat v.toNat false=true):Rn A0 (K.tell c kd a b v).told (after A K kd a b v):=by
 rw [ztL hf (by omega)];exact h.snoc (ztU hd hk hr)
theorem zuS (hf:c.filter=4294967295) (h:Rn A0 K.told A) {kd:Nat} {a b v:Int} (hd:A.due=⟨kd,a.toNat,b.toNat⟩) (hk:1≤kd∧kd<24) (hr:zob { A with due:=du0 } kd a.toNat b.toNat v.toNat true=true):Rn A0 (K.tell c kd a b v).told (after A K kd a b v):=by
 rw [ztL hf (by omega)];exact h.snoc (zuf hd hk hr)
theorem zsZ (hd:A.due=du0) (kd:Nat) (a b v:Int):after A K kd a b v={ znq A kd a.toNat b.toNat v.toNat with last:=⟨kd,K.cycle,K.count,a.toNat,b.toNat,v.toNat⟩,seen:=A.seen+1 }:=by
 have e1:({ A with due:=du0 }:Au)=A:=by rw [← hd]
 unfold after znJ;rw [e1];rfl
theorem ztg (kd:Nat) (a b v:Int):after A K kd a b v={ znq { A with due:=du0 } kd a.toNat b.toNat v.toNat with last:=⟨kd,K.cycle,K.count,a.toNat,b.toNat,v.toNat⟩,seen:=A.seen+1 }:=rfl
end
end Go.Proofs.YtgiiidminlhbpaaGreatDoor
