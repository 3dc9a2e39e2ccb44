/-
  Parts of the proof: LSpreads Tie7.
-/
import Derived.ProofKit
import Derived.LaidMore
import Derived.LaidLaws
import Derived.OpenShut
import Derived.ChangeVars
import Derived.Stop.Joined
import Derived.Test.YtndjjndllfdklaaGreatDoorKE0
import Derived.Test.YtndjjndllfdklaaGreatDoorKE1
import Derived.Test.YtndjjndllfdklaaGreatDoorKE4
set_option linter.unusedVariables false
set_option linter.unusedSimpArgs false
set_option maxHeartbeats 32000000
set_option maxRecDepth 100000
namespace Go.Proofs.YtndjjndllfdklaaGreatDoor
open Go.RowKit Go.Sx Go.Hi
theorem statSpreads_walk (v0:Value) (js:List Jb) (t:Int) (v2:Value) (bd:List Int) (w0:World) (h0:RdR w0 v0 js) (zt:(Lit.int .i64 t).wf=true) (h2:RdN .u64 w0 v2 bd) (z2:∀ n∈bd,(Lit.int .u64 n).wf=true) (hT:Tab w0) :
  Calls Tryz.prog 12 #[v0,.int .i64 t,v2] w0 (RetV w0 (.bool true) emp):=by
 have hs:=Sat.start w0;have hr:∀ y∈bd,0≤y∧y<18446744073709551616:=fun y hy=>by have:=wfw64 (z2 y hy);omega
 haveI:OldRec w0 encJb v0 js:=⟨h0⟩;haveI:OldR w0 .u64 v2 bd:=⟨h2⟩;have hA:=hid (fun (w:World) (h:Sat w0 w any)=>lawAwake28 w (hT.later h));obtain ⟨a0,c0,b0,o0,rfl,k1,k2,_,_⟩:=id h0;obtain ⟨a2,c2,b2,o2,rfl,k3,k4,_,_⟩:=id h2;unfold maxLen at k2 k4;have HR:=hid hr;clear z2 zt h0 hr hT
 by_cases g0:300<js.length
 ·have d0:decide ((300:Int)<(js.length:Int))=true:=by simp;omega
  go_enter Tryz.func12,Tryz.ntmps12
  go_wp2_with fail;refine (hA.out _ own_left).mono ?_;rintro e w1 ⟨rfl,hp⟩;have hs1:=Sat.past (w0:=w0) own_it hp;clear hp hs;go_wp2_with fail;refine (hA.out _ own_left).mono ?_;rintro e w2 ⟨rfl,hp⟩;have hs2:=Sat.past (w0:=w0) own_it hp;clear hp hs1;go_wp2_with fail;go_ret;exact ⟨rfl,own_left⟩
 ·have d0:decide ((300:Int)<(js.length:Int))=false:=by simp;omega
  by_cases g1:100<bd.length
  ·have d1:decide ((100:Int)<(bd.length:Int))=true:=by simp;omega
   go_enter Tryz.func12,Tryz.ntmps12
   go_wp2_with fail;refine (hA.out _ own_left).mono ?_;rintro e w1 ⟨rfl,hp⟩;have hs1:=Sat.past (w0:=w0) own_it hp;clear hp hs;go_wp2_with fail;refine (hA.out _ own_left).mono ?_;rintro e w2 ⟨rfl,hp⟩;have hs2:=Sat.past (w0:=w0) own_it hp;clear hp hs1;go_wp2_with fail;go_ret;exact ⟨rfl,own_left⟩
  ·have d1:decide ((100:Int)<(bd.length:Int))=false:=by simp;omega
   go_enter Tryz.func12,Tryz.ntmps12
   go_wp2_with fail;refine (hA.out _ own_left).mono ?_;rintro e w1 ⟨rfl,hp⟩;have hs1:=Sat.past (w0:=w0) own_it hp;clear hp hs;go_wp2_with (first | (at_builtin;refine wpList_append_recs rfl rfl rfl rfl (by omega) ?_;intro ap ac aL aw ahL ah1 ah2 ahs _) | (at_builtin;refine wpList_append_nums rfl rfl rfl rfl (by omega) ?_;intro bp bc2 bL bw bhL bh1 bh2 bhs _));obtain rfl:js=aL:=by have:=ahL.out;simpa using this.symm
   obtain rfl:bd=bL:=by have:=bhL.out;simpa using this.symm
   clear hs1 ahs ahL bhL;refine (stSpread _ _ t js bd bw rdr rd (by omega) (by omega) HR.out).mono ?_;intro e w2 hpost
   rcases hpost with ⟨hno,rfl,hp⟩ | ⟨hRi,b,ba,bc,g,cc,le,tp,rfl,hp⟩
   ·have hs2:=Sat.past (w0:=w0) own_it hp;clear hp bhs;have Hno:=hid hno;clear hno;go_wp2_with fail;refine (rRight _ bd w2 rd (by omega)).mono ?_;rintro e w3 ⟨z,hz,rfl,n,rfl⟩;obtain rfl:z=false:=by cases z;rfl;exact absurd (hz.1 rfl) Hno.out
    clear hz;go_wp2_with fail;go_ret;exact ⟨rfl,own_left⟩
   ·have hs2:=Sat.over (w0:=w0) own_it hp;clear hp bhs;have HRi:=hid hRi;clear hRi;go_wp2_with fail;refine (rRight _ bd w2 rd (by omega)).mono ?_;rintro e w3 ⟨z,hz,rfl,n,rfl⟩;obtain rfl:z=true:=hz.2 HRi.out;clear hz;go_wp2_with fail;refine wp_gen (w0:=w0) ?_;intro ww hsw;clear hs2;obtain ⟨X,hX⟩:∃ X,X=tks t js:=⟨_,rfl⟩;rw [← hX] at hsw;have hXl:X.length≤300:=by rw [hX];have:=tks_len t js;omega
    have HX:=hid hX;have HXr:=hid (show ∀ y∈X,0≤y∧y<18446744073709551616 from by rw [hX];exact tks_rng t js);clear hX;obtain ⟨C,hC⟩:∃ C,C=cntF bd X:=⟨_,rfl⟩;obtain ⟨S,hS⟩:∃ S,S=satF X:=⟨_,rfl⟩;rw [← hC,← hS] at hsw;have hCl:C.length≤1000:=by rw [hC,cntF_len];omega
    have HC:=hid hC;have HS:=hid hS;clear hC hS
    go_loopw [48,9] (fun i ov wr=>∃ (k:Nat) (oa:Option Addr) (oc:Nat) (L:List Int),k≤js.length∧L.length≤k∧i=.int .i64 k∧ov=.slice oa L.length oc∧Hid (L=tks t (js.take k))∧Sat w0 wr (numsP .u64 (.slice oa L.length oc) L*(hiP b ba bc g cc X.length S le tp bd C*any))) (fun i _ _=>js.length-(intOf i).toNat)
    case atStart =>
     refine ⟨0,_,0,[],Nat.zero_le _,Nat.le_refl _,rfl,rfl,hid rfl,?_⟩;show Sat w0 ww (numsP .u64 (.slice (some ⟨_,0,none⟩) 0 0) []*_);rw [numsP_empty,emp_star];exact own_left
    case round =>
     obtain ⟨k,oa,oc,L,hk,hLk,rfl,rfl,hL,hsr⟩:=hrel;clear hsw
     by_cases hlt:k<js.length
     ·obtain ⟨g1,o1,rfl,hrange⟩:=jb_at (wr:=wr) (a:=a0) (n:=js.length) (c:=c0) (l:=js) (k:=k) rdr hlt;have hd:decide ((k:Int)<(js.length:Int))=true:=by simp;omega
      have hsn:=hid (tks_snoc t hlt);rw [← hL.out] at hsn;generalize jg js k=j at hrange hsn
      by_cases h1:j.ended=true
      ·by_cases h2:j.task=t
       ·have d2:(j.task==t)=true:=by simp [h2]
        rw [if_pos ⟨h1,h2⟩] at hsn;go_wp2_with (first | (refine wpList_load_mid rfl _ _ rfl _ _ rfl _ _ hrange Tryz.underlying110 rfl (by kernel_rfl) ?_) | (at_builtin;refine wpList_append_nums rfl rfl rfl rfl (by omega) ?_;intro bp bc3 bL bw2 bhL bh1 bh2 bhs _));go_roundw
        case rel =>
         refine ⟨k+1,bp,bc3,bL,by omega,by omega,by go_num,rfl,hid ?_,own_left⟩;rw [bhL.out,hsn.out,wrapU]
        case measure=>simp [intOf];omega
       ·have d2:(j.task==t)=false:=by simp [h2]
        rw [if_neg (fun h=>h2 h.2),List.append_nil] at hsn;go_wp2_with (refine wpList_load_mid rfl _ _ rfl _ _ rfl _ _ hrange Tryz.underlying110 rfl (by kernel_rfl) ?_);go_roundw
        case rel=>exact ⟨k+1,oa,oc,L,by omega,by omega,by go_num,rfl,hid hsn.out.symm,own_left⟩
        case measure=>simp [intOf];omega
      ·have h1':j.ended=false:=by simpa using h1
       rw [if_neg (fun h=>h1 h.1),List.append_nil] at hsn;go_wp2_with (refine wpList_load_mid rfl _ _ rfl _ _ rfl _ _ hrange Tryz.underlying110 rfl (by kernel_rfl) ?_);go_roundw
       case rel=>exact ⟨k+1,oa,oc,L,by omega,by omega,by go_num,rfl,hid hsn.out.symm,own_left⟩
       case measure=>simp [intOf];omega
     ·have hd:decide ((k:Int)<(js.length:Int))=false:=by simp;omega
      have eL:L=X:=by rw [hL.out,HX.out,List.take_of_length_le (by omega)]
      subst eL;clear hL;go_wp2_with fail;refine (hCounts b ba bc g cc L.length S le tp bd C w0 wr _ Go.Sx.own hCl).mono ?_;rintro e w4 ⟨v4,rfl,hs4⟩;clear hsr;go_wp2_with fail;refine (rCounts _ _ bd L w4 rd rd (by omega) (by omega) HXr.out).mono ?_;rintro e w5 ⟨v5,rfl,hp⟩;rw [← HC.out] at hp;have hs5:=Sat.over (w0:=w0) own_it (hp.perm (star_emp _).symm);clear hp hs4;go_wp2_with fail;refine (rSame v4 v5 C C w5 rd rd).mono ?_;rintro e w6 ⟨rfl,n2,rfl⟩;rw [decide_eq_true (rfl:C=C)];go_wp2_with fail;refine (hSum b ba bc g cc L.length S le tp bd C w0 _ _ Go.Sx.own).mono ?_;rintro e w7 ⟨rfl,rfl⟩;go_wp2_with fail;refine (rSum _ L _ rd HXr.out (by omega)).mono ?_;rintro e w8 ⟨rfl,rfl⟩;rw [← HS.out];go_wp2_with fail;go_ret;exact ⟨rfl,own_left⟩
end Go.Proofs.YtndjjndllfdklaaGreatDoor
namespace Go.Proofs.YtndjjndllfdklaaGreatDoor
open Go.ChangeShapes Go.WideShapes Go.ChangeAt Go.RowKit Go.Sx
abbrev laidT : List (String × DataW Unit) := [("math/bits.deBruijn32tab", Rows.laid_math_bits_deBruijn32tab)]
theorem gTab : Tryz.prog.globalNamed "math/bits.deBruijn32tab" = some 0 := by kernel_rfl
theorem tTab : (Tryz.prog.globals[0]?).map (·.type) = some 337:=by kernel_rfl
theorem dTab:(Rows.laid_math_bits_deBruijn32tab:DataW Unit)=.agg (Lib.deBruijn32tab.map fun k:Nat=>DataW.lit (.int .u8 (k:Int))):=by kernel_rfl
theorem door_met (os:Os) (args:Array Value):laidMetH Tryz.prog laidT ((World.doorLaid Tryz.prog 400 os).forCall (fun _ _=>0) ⟨#[],args,[]⟩).memory :=
 laidMetH_of_parts (laidMet_of_run' 8 (by kernel_rfl) (by kernel_rfl)) (by kernel_rfl)
theorem tab_of_laid {W:World} (h:laidMetH Tryz.prog laidT W):Tab W:=by
 rw [MakeChecks.laidMetH_plain _ _ _ (by kernel_rfl)] at h;obtain ⟨ps,⟨g0,t0,cs0,f0,p0,q0,hg0,ht0,hv0,hd0,_,_⟩,_,_⟩:=h;obtain rfl:=Option.some.inj (gTab.symm.trans hg0);obtain rfl:=Option.some.inj (tTab.symm.trans ht0);obtain ⟨xs,m1,rfl,hx1,hlen,hn,hel⟩:=DataW.trod_array Tryz.underlying337 hd0;have c8:Tryz.prog.cellsOf 5=1:=by kernel_rfl
 rw [dTab] at hx1;simp only [Prod.mk.injEq,DataW.agg.injEq] at hx1;intro j hj;have hj32:j<32:=hj;have hxj:j<xs.length:=by omega
 have h0:=hel j hj32;rw [c8,Nat.mul_one,List.getElem?_eq_getElem hxj] at h0;obtain ⟨k,e1,e2,_⟩:=DataW.trod_int Tryz.underlying5 h0;have e3 : (xs.map (·.1))[j]? = (Lib.deBruijn32tab.map fun k : Nat=>(DataW.lit (.int .u8 (k : Int)) : DataW Unit))[j]?:=by rw [hx1.1]
 rw [List.getElem?_map,List.getElem?_map,List.getElem?_eq_getElem hxj,e2,List.getElem?_eq_getElem hj] at e3;simp only [Option.map_some,Option.some.injEq,DataW.lit.injEq,Lit.int.injEq,true_and] at e3;have hcell:=World.var?_cell hg0 hv0 j;have hl:j<cs0.toList.length:=by
  rcases Nat.lt_or_ge j cs0.toList.length with a | a
  ·exact a
  ·rw [List.drop_eq_nil_of_le a] at e1;simp at e1
 rw [List.drop_eq_getElem_cons hl] at e1;have e4:cs0.toList[j]=.int .u8 k:=by simpa using e1
 have hl2:j<cs0.size:=by simpa using hl
 rw [hcell,Array.getElem?_eq_getElem hl2];rw [show cs0[j]=.int .u8 k by simpa using e4,e3];simp [List.getD,hj]
end Go.Proofs.YtndjjndllfdklaaGreatDoor
