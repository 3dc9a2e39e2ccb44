/-
  Parts of the proof: Awake Open CfOpen Tie7.
-/
import Derived.Test.YthcfimbidmogkaaGreatDoorRows
import Derived.ProofKit
import Derived.OpenShut
import Derived.ShutString
import Derived.ChangeOld
import Derived.Below
import Derived.Deep.Slices
import Derived.LaidMore
import Derived.LaidLaws
import Derived.ChangeVars
import Derived.Stop.Joined
import Derived.Handy
import Derived.Test.YthcfimbidmogkaaGreatDoorKB0
import Derived.Test.YthcfimbidmogkaaGreatDoorKB1
import Derived.Test.YthcfimbidmogkaaGreatDoorKB5
import Derived.Test.YthcfimbidmogkaaGreatDoorKB6
import Derived.Test.YthcfimbidmogkaaGreatDoorKB7
import Derived.Test.YthcfimbidmogkaaGreatDoorKB8
import Derived.Test.YthcfimbidmogkaaGreatDoorKB9
import Derived.Test.YthcfimbidmogkaaGreatDoorKB13
import Derived.Test.YthcfimbidmogkaaGreatDoorKB14
set_option linter.unusedVariables false
set_option linter.unusedSimpArgs false
set_option maxHeartbeats 32000000
set_option maxRecDepth 100000
namespace Go.Proofs.YthcfimbidmogkaaGreatDoor
open Go.RowKit Go.Sx Go.Dl Go.Lk Go.Rq Go.Au
theorem z4C {P : Program} {f : FuncId} {args : Array Value} {Q : Ending → World → Prop} {w0 w : World} {R : HP} [h : Sat w0 w R] (k : ∀ wx,Sat w0 wx R → Calls P f args wx Q) : Calls P f args w Q:=k w h
theorem znW : z6B aCf:=by
 refine ⟨fun t ht i hi=>?_,fun t ht=>absurd ht (by simp [aCf]),by decide,by decide,by decide,by decide⟩;obtain rfl : t = 0:=by have : t < 1:=ht;omega
 have hi : i ∈ [(⟨31,0,0,0,0,0⟩ : Ins),⟨37,0,0,0,0,0⟩]:=hi;simp only [List.mem_cons,List.mem_nil_iff,or_false] at hi
 rcases hi with rfl | rfl <;> exact ⟨by decide,by decide⟩
theorem aSm : z5a aCf:=by
 refine ⟨by decide,by decide,by decide,by decide,by decide,fun t ht=>?_,fun t ht=>absurd ht (by simp [aCf])⟩;obtain rfl : t = 0:=by have : t < 1:=ht;omega
 decide
theorem aOk : z7T aCf:=z4E znW zj1
theorem aI0 : Inv aCf (z34 aCf):=z8W aOk
theorem zgo : zG 0:=⟨by decide,by decide⟩
theorem aI1 : Inv aCf aK1:=z23 aI0 0 zgo
theorem aI2 : Inv aCf aK2:=z23 aI1 0 zgo
theorem aI3 : Inv aCf aK3:=z23 aI2 0 zgo
theorem aRd {w0 w : World} {F : HP} {cb tb : Nat} (hs : Sat w0 w (pts tb 0 [.int .i64 0,.int .i64 1,.int .i64 0,.int .i64 0,.int .i64 0,.slice (some ⟨cb,0,none⟩) 2 2] * (pts cb 0 [.int .i64 31,.int .i64 0,.int .i64 0,.int .i64 0,.int .i64 0,.int .u32 0,.int .i64 37,.int .i64 0,.int .i64 0,.int .i64 0,.int .i64 0,.int .u32 0] * F))) :
  z8I w (.agg #[.slice (some ⟨tb,0,none⟩) 1 1,.slice none 0 0,.int .i64 1,.slice none 0 0,.slice none 0 0,.slice none 0 0,.int .i64 0,.int .u32 0,.int .u32 4294967295,.int .i64 0,.int .u64 0,.int .u64 0]) aCf:=by
 have nil : RdN .i64 w (.slice none 0 0) []:=⟨none,0,0,0,rfl,Nat.le_refl _,Nat.zero_le _,fun h=>absurd rfl h,fun j hj=>absurd hj (Nat.not_lt_zero _)⟩;refine ⟨_,_,_,_,_,rfl,⟨[⟨0,1,0,0,0,some ⟨cb,0,none⟩,2,2⟩],?_,rfl,fun t ht=>?_⟩,⟨[],z5D w,rfl,fun t ht=>absurd ht (by simp [aCf])⟩,nil,nil,nil⟩
 ·exact ⟨some ⟨tb,0,none⟩,1,tb,0,rfl,Nat.le_refl 1,(by unfold maxLen;omega),fun _=>rfl,fun j u hj=>hs.cell hj⟩
 ·obtain rfl : t = 0:=by have : t < 1:=ht;omega
  refine ⟨rfl,rfl,rfl,rfl,rfl,?_⟩;have hs2:=(hs.perm (by ac_rfl : _ = pts cb 0 [.int .i64 31,.int .i64 0,.int .i64 0,.int .i64 0,.int .i64 0,.int .u32 0,.int .i64 37,.int .i64 0,.int .i64 0,.int .i64 0,.int .i64 0,.int .u32 0] * (pts tb 0 [.int .i64 0,.int .i64 1,.int .i64 0,.int .i64 0,.int .i64 0,.slice (some ⟨cb,0,none⟩) 2 2] * F)));exact ⟨some ⟨cb,0,none⟩,2,cb,0,rfl,Nat.le_refl 2,(by unfold maxLen;omega),fun _=>rfl,fun j u hj=>hs2.cell hj⟩
@[go_sem] theorem zlN (x0 x1 x2 x3 x4 x5 x6 x7 x8 x9 x10 x11 x12 x13 x14 x15 x16 x17 x18 x19 x20 x21 x22 x23 x24 x25 x26 x27 x28 : Value) (w : World) : Sem.run Tryz.prog (Instr.field 51 (.agg #[x0,x1,x2,x3,x4,x5,x6,x7,x8,x9,x10,x11,x12,x13,x14,x15,x16,x17,x18,x19,x20,x21,x22,x23,x24,x25,x26,x27,x28]) 8) w = .ok x17 w:=by kernel_rfl
theorem z6t (w0 : World) (hT : Tab w0) : Calls Tryz.prog 11 #[] w0 (zp w0 (.bool true) emp):=by
 have hs:=Sat.start w0;have HT:=hid hT;clear hT
 go_enter Tryz.func11,Tryz.ntmps11
 go_wp2_with fail;refine z4C (w0:=w0) ?_;intro wa hsa;clear hs;generalize w0.heap.size = nb at *;refine (zhA _ aCf znW aSm wa (aRd (w0:=w0) (cb:=nb) (tb:=nb + 1) (F:=any) z3) zj1).mono ?_;rintro en w1 ⟨v1,rfl,hs1⟩;obtain ⟨b,hs2⟩:=(hs1.perm (zz _).symm).ex_out;obtain ⟨y,hs3⟩:=hs2.ex_out;obtain ⟨e,hs4⟩:=(hs3.perm (zb _ _ _)).pur_out;subst e;have hs5:=Sat.over hsa hs4;clear hs1 hs2 hs3 hs4 hsa;have hs6 : Sat w0 w1 (knP b y aCf (z34 aCf) * any):=z3;clear hs5;unfold ftV;go_wp2_with fail;refine (z8n b y aCf (z34 aCf) aI0 rfl 0 (by decide) 0 zgo w0 _ HT.out _ own).mono ?_;rintro en w2 ⟨v2,rfl,hs7⟩;rw [aE1] at hs7;obtain ⟨h1,rfl,_,hs8⟩:=z2T hs7;have hs9 : Sat w0 w2 (pts h1.b h1.o [.int .i64 6,.int .u64 0,.int .u64 1,.int .u32 0,.int .u32 0,.int .u32 1,.int .i64 5,.int .u64 0,.int .u64 1,.int .u32 0,.int .u32 255,.int .u32 0,.int .i64 12,.int .u64 22,.int .u64 1,.int .u32 0,.int .u32 0,.int .u32 0] * (knP b y aCf aK1 * any)):=by
  refine (show Sat w0 w2 (pts h1.b h1.o [.int .i64 6,.int .u64 0,.int .u64 1,.int .u32 0,.int .u32 0,.int .u32 1,.int .i64 5,.int .u64 0,.int .u64 1,.int .u32 0,.int .u32 255,.int .u32 0,.int .i64 12,.int .u64 22,.int .u64 1,.int .u32 0,.int .u32 0,.int .u32 0] * (knP b y aCf aK1 * _)) from hs8).frm
 clear hs6 hs7 hs8;have a1 : h1.ad 3 = some ⟨h1.b,h1.o,none⟩:=h1.ad_pos (by decide);have e1 : ([⟨6,0,1,0,0,1⟩,⟨5,0,1,0,255,0⟩,⟨12,22,1,0,0,0⟩] : List Ev).length = 3:=rfl;rw [e1,Hd.v_eq,a1];clear a1 e1;go_wp2_with fail;refine (z8n b y aCf aK1 aI1 rfl 0 (by decide) 0 zgo w0 _ HT.out _ own).mono ?_;rintro en w3 ⟨v3,rfl,hs10⟩;rw [aE2] at hs10;obtain ⟨h2,rfl,_,hs11⟩:=z2T hs10;have hs12 : Sat w0 w3 (pts h2.b h2.o [.int .i64 22,.int .u64 34,.int .u64 2,.int .u32 0,.int .u32 0,.int .u32 0,.int .i64 13,.int .u64 34,.int .u64 2,.int .u32 0,.int .u32 0,.int .u32 0] * (pts h1.b h1.o [.int .i64 6,.int .u64 0,.int .u64 1,.int .u32 0,.int .u32 0,.int .u32 1,.int .i64 5,.int .u64 0,.int .u64 1,.int .u32 0,.int .u32 255,.int .u32 0,.int .i64 12,.int .u64 22,.int .u64 1,.int .u32 0,.int .u32 0,.int .u32 0] * (knP b y aCf aK2 * any))):=by
  have h : Sat w0 w3 (pts h2.b h2.o [.int .i64 22,.int .u64 34,.int .u64 2,.int .u32 0,.int .u32 0,.int .u32 0,.int .i64 13,.int .u64 34,.int .u64 2,.int .u32 0,.int .u32 0,.int .u32 0] * (knP b y aCf aK2 * _)):=hs11;exact z3 (hs:=h)
 clear hs9 hs10 hs11;have a2 : h2.ad 2 = some ⟨h2.b,h2.o,none⟩:=h2.ad_pos (by decide);have e2 : ([⟨22,34,2,0,0,0⟩,⟨13,34,2,0,0,0⟩] : List Ev).length = 2:=rfl;rw [e2,Hd.v_eq,a2];clear a2 e2;go_wp2_with fail;refine (z8n b y aCf aK2 aI2 rfl 0 (by decide) 0 zgo w0 _ HT.out _ own).mono ?_;rintro en w4 ⟨v4,rfl,hs13⟩;rw [aE3] at hs13;obtain ⟨h3,rfl,_,hs14⟩:=z2T hs13;have hs15 : Sat w0 w4 (pts h3.b h3.o [.int .i64 5,.int .u64 34,.int .u64 3,.int .u32 255,.int .u32 0,.int .u32 0] * (pts h2.b h2.o [.int .i64 22,.int .u64 34,.int .u64 2,.int .u32 0,.int .u32 0,.int .u32 0,.int .i64 13,.int .u64 34,.int .u64 2,.int .u32 0,.int .u32 0,.int .u32 0] * (pts h1.b h1.o [.int .i64 6,.int .u64 0,.int .u64 1,.int .u32 0,.int .u32 0,.int .u32 1,.int .i64 5,.int .u64 0,.int .u64 1,.int .u32 0,.int .u32 255,.int .u32 0,.int .i64 12,.int .u64 22,.int .u64 1,.int .u32 0,.int .u32 0,.int .u32 0] * (knP b y aCf aK3 * any)))):=by
  have h : Sat w0 w4 (pts h3.b h3.o [.int .i64 5,.int .u64 34,.int .u64 3,.int .u32 255,.int .u32 0,.int .u32 0] * (knP b y aCf aK3 * _)):=hs14;exact z3 (hs:=h)
 clear hs12 hs13 hs14;have a3 : h3.ad 1 = some ⟨h3.b,h3.o,none⟩:=h3.ad_pos (by decide);have e3 : ([⟨5,34,3,255,0,0⟩] : List Ev).length = 1:=rfl;rw [e3,Hd.v_eq,a3];clear a3 e3;go_wp2_with fail;refine (zbP b y aCf aK3 aI3 w0 w4 _ own).mono ?_;rintro en w5 ⟨v5,rfl,hs16⟩;obtain ⟨sv,rfl,hs17⟩:=z9H hs16;clear hs15 hs16;obtain ⟨him,hmm,htt,hrr,hoo,hll,hss,hkk,hqq,hsd,hrc,hdd⟩:=sv;unfold stH at hs17;dsimp only at hs17;simp only [stL,stA,stC,cxL,R8.cells,List.cons_append,List.nil_append];have hs18 : Sat w0 w5 (tkP htt (aK3.st aCf).tasks * any):=zq;obtain ⟨ts,hs19⟩:=hs18.ex_out;obtain ⟨e1,hs20⟩:=(hs19.perm (by ac_rfl : _ = pur (ts.map Tr.s = (aK3.st aCf).tasks.map Prod.fst) * (z7 htt ts * (z9O ts (fun i=>((aK3.st aCf).tasks.getD i (ts0,[])).2) (aK3.st aCf).tasks.length * any)))).pur_out;have e2 : (aK3.st aCf).tasks.map Prod.fst = [aK3.T 0]:=rfl;rw [e2] at e1;obtain ⟨r,hr⟩ : ∃ r,ts = [r]:=by
  match ts,e1 with
  | [r],_=>exact ⟨r,rfl⟩
  | [],e=>simp at e
  | _ :: _ :: _,e=>simp at e
 subst hr;have e3 : r.s = aK3.T 0:=by simpa using e1
 have e4 : r.s.st = 7:=by rw [e3];exact aT3
 obtain ⟨h4,rfl,_,hs21⟩:=z2T hs20;have a4 : h4.ad 1 = some ⟨h4.b,h4.o,none⟩:=h4.ad_pos (by decide);have hs22 : Sat w0 w5 (pts h4.b h4.o [.int .i64 r.s.st,.int .i64 r.s.lev,.int .i64 r.s.on,.int .i64 r.s.late,.int .u32 r.s.job,.int .i64 r.s.at_,.int .u32 r.s.rg.r0,.int .u32 r.s.rg.r1,.int .u32 r.s.rg.r2,.int .u32 r.s.rg.r3,.int .u32 r.s.rg.r4,.int .u32 r.s.rg.r5,.int .u32 r.s.rg.r6,.int .u32 r.s.rg.r7,.slice r.a r.n r.c] * any):=by
  refine (show Sat w0 w5 (pts h4.b h4.o [.int .i64 r.s.st,.int .i64 r.s.lev,.int .i64 r.s.on,.int .i64 r.s.late,.int .u32 r.s.job,.int .i64 r.s.at_,.int .u32 r.s.rg.r0,.int .u32 r.s.rg.r1,.int .u32 r.s.rg.r2,.int .u32 r.s.rg.r3,.int .u32 r.s.rg.r4,.int .u32 r.s.rg.r5,.int .u32 r.s.rg.r6,.int .u32 r.s.rg.r7,.slice r.a r.n r.c] * _) from hs21).toAny
 rw [e4] at hs22;clear hs17 hs18 hs19 hs20 hs21 e1 e2 e3 e4;have e5 : ([r] : List Tr).length = 1:=rfl;rw [e5,Hd.v_eq,a4];clear a4 e5;go_wp2_with fail;go_ret;exact ⟨rfl,z3⟩
end Go.Proofs.YthcfimbidmogkaaGreatDoor
namespace Go.Proofs.YthcfimbidmogkaaGreatDoor
open Go.RowKit Go.Sx Go.ChangeShapes Go.WideShapes Go.ChangeAt
open Go.ChangeMaps (open_string shut_string)
theorem own : ownKnob Tryz.prog.godebug = none:=by kernel_rfl
section
variable {H : Type} {enc : TypeId × Value → H} {P : Program} {W : World} {base : Nat}
end
end Go.Proofs.YthcfimbidmogkaaGreatDoor
namespace Go.Proofs.YthcfimbidmogkaaGreatDoor
open Go.RowKit Go.Sx Go.Dl Go.Lk Go.Rq Go.Au Go.ChangeShapes Go.WideShapes Go.ChangeAt
set_option linter.constructorNameAsVariable false
theorem zbk {n : Int} (h : (Lit.int .u32 n).wf = true) : zG n:=by
 have h1 : (decide ((0 : Int) ≤ n) && decide (n ≤ 4294967295)) = true:=h;simp only [Bool.and_eq_true,decide_eq_true_eq] at h1;exact ⟨by omega,by omega⟩
section
variable {H : Type} {enc : TypeId × Value → H} {P : Program} {W : World}
end
section
variable {H : Type} {enc : TypeId × Value → H} {W : World}
end
end Go.Proofs.YthcfimbidmogkaaGreatDoor
namespace Go.Proofs.YthcfimbidmogkaaGreatDoor
open Go.ChangeShapes Go.WideShapes Go.ChangeAt Go.RowKit Go.Sx
abbrev z4M : List (String × DataW Unit) := [("math/bits.deBruijn32tab", Rows.laid_math_bits_deBruijn32tab)]
theorem zo8 : Tryz.prog.globalNamed "math/bits.deBruijn32tab" = some 0 := by kernel_rfl
theorem zoc : (Tryz.prog.globals[0]?).map (·.type) = some 245:=by kernel_rfl
theorem zo6 : (Rows.laid_math_bits_deBruijn32tab : DataW Unit) = .agg (Lib.deBruijn32tab.map fun k : Nat=>DataW.lit (.int .u8 (k : Int))):=by kernel_rfl
theorem z6k (os : Os) (args : Array Value) : laidMetH Tryz.prog z4M ((World.doorLaid Tryz.prog 400 os).forCall (fun _ _=>0) ⟨#[],args,[]⟩).memory :=
 laidMetH_of_parts (laidMet_of_run' 8 (by kernel_rfl) (by kernel_rfl)) (by kernel_rfl)
theorem z3h {W : World} (h : laidMetH Tryz.prog z4M W) : Tab W:=by
 rw [MakeChecks.laidMetH_plain _ _ _ (by kernel_rfl)] at h;obtain ⟨ps,⟨g0,t0,cs0,f0,p0,q0,hg0,ht0,hv0,hd0,_,_⟩,_,_⟩:=h;obtain rfl:=Option.some.inj (zo8.symm.trans hg0);obtain rfl:=Option.some.inj (zoc.symm.trans ht0);obtain ⟨xs,m1,rfl,hx1,hlen,hn,hel⟩:=DataW.trod_array Tryz.underlying245 hd0;have c8 : Tryz.prog.cellsOf 5 = 1:=by kernel_rfl
 rw [zo6] at hx1;simp only [Prod.mk.injEq,DataW.agg.injEq] at hx1;intro j hj;have hj32 : j < 32:=hj;have hxj : j < xs.length:=by omega
 have h0:=hel j hj32;rw [c8,Nat.mul_one,List.getElem?_eq_getElem hxj] at h0;obtain ⟨k,e1,e2,_⟩:=DataW.trod_int Tryz.underlying5 h0;have e3 : (xs.map (·.1))[j]? = (Lib.deBruijn32tab.map fun k : Nat=>(DataW.lit (.int .u8 (k : Int)) : DataW Unit))[j]?:=by rw [hx1.1]
 rw [List.getElem?_map,List.getElem?_map,List.getElem?_eq_getElem hxj,e2,List.getElem?_eq_getElem hj] at e3;simp only [Option.map_some,Option.some.injEq,DataW.lit.injEq,Lit.int.injEq,true_and] at e3;have hcell:=World.var?_cell hg0 hv0 j;have hl : j < cs0.toList.length:=by
  rcases Nat.lt_or_ge j cs0.toList.length with a | a
  ·exact a
  ·rw [List.drop_eq_nil_of_le a] at e1;simp at e1
 rw [List.drop_eq_getElem_cons hl] at e1;have e4 : cs0.toList[j] = .int .u8 k:=by simpa using e1
 have hl2 : j < cs0.size:=by simpa using hl
 rw [hcell,Array.getElem?_eq_getElem hl2];rw [show cs0[j] = .int .u8 k by simpa using e4,e3];simp [List.getD,hj]
end Go.Proofs.YthcfimbidmogkaaGreatDoor
