/-
  WorldChecks: for every input the law returns true, and each argument reads afterwards as before; its one listed variable tied to the program's text.
-/
import Derived.Test.YtlbjjoeocdimfaaGreatDoorCards
import Derived.Test.YtlbjjoeocdimfaaGreatDoorTie
import Derived.SevenTiedAt
import Derived.Test.YtlbjjoeocdimfaaGreatDoorKD0
import Derived.Test.YtlbjjoeocdimfaaGreatDoorKD1
import Derived.Test.YtlbjjoeocdimfaaGreatDoorKD2
import Derived.Test.YtlbjjoeocdimfaaGreatDoorKD3
import Derived.Test.YtlbjjoeocdimfaaGreatDoorKD4
import Derived.Test.YtlbjjoeocdimfaaGreatDoorKD5
import Derived.Test.YtlbjjoeocdimfaaGreatDoorKD6
import Derived.Test.YtlbjjoeocdimfaaGreatDoorKD7
import Derived.Test.YtlbjjoeocdimfaaGreatDoorKD8
import Derived.Test.YtlbjjoeocdimfaaGreatDoorKD9
import Derived.Test.YtlbjjoeocdimfaaGreatDoorKD10
import Derived.Test.YtlbjjoeocdimfaaGreatDoorKD11
import Derived.Test.YtlbjjoeocdimfaaGreatDoorKD12
import Derived.Test.YtlbjjoeocdimfaaGreatDoorKD13
import Derived.Test.YtlbjjoeocdimfaaGreatDoorKD14
import Derived.Test.YtlbjjoeocdimfaaGreatDoorKD15
import Derived.Test.YtlbjjoeocdimfaaGreatDoorKD16
import Derived.Test.YtlbjjoeocdimfaaGreatDoorKD17
import Derived.Test.YtlbjjoeocdimfaaGreatDoorKD18
import Derived.Test.YtlbjjoeocdimfaaGreatDoorWC0
import Derived.Test.YtlbjjoeocdimfaaGreatDoorWC1
import Derived.Test.YtlbjjoeocdimfaaGreatDoorWC2
set_option linter.unusedVariables false
set_option linter.unusedSimpArgs false
set_option maxHeartbeats 32000000
set_option maxRecDepth 100000
namespace Go.Proofs.YtlbjjoeocdimfaaGreatDoor.worldChecks
open Go.ChangeShapes Go.WideShapes Go.ChangeAt Go.RowKit Go.Sx
open Go.ChangeMaps (open_string shut_string)
theorem lifted (os:Os) (started:os.Started) (H:Type) (enc:TypeId×Value→H) :
  ReturnsInHanded {} Tryz.checked os 8 .any (fun w args=>(Rows.worldChecksSpec.pre enc Tryz.prog Tryz.f8 [] false w args∧laidMetH Tryz.prog z4M w)∧sizedMet enc Tryz.prog Tryz.f8 (OpenSpec.ofChange Rows.worldChecksSpec) false w args)
   (Rows.worldChecksSpec.post enc Tryz.prog Tryz.f8 false true false false):=by
 refine returnsInHanded_of_change_and (C:=Tryz.checked) (X:=fun w _=>laidMetH Tryz.prog z4M w) (fun _ _ _ hh h=>h.of_heap hh) zsF started (by kernel_rfl) Tryz.func8
  (ChangeSpec.witness_shaped (enc:=enc) (C:=Tryz.checked) (os:=os) (X:=fun w _=>laidMetH Tryz.prog z4M w) false (World.doorLaid Tryz.prog 400 os) #[.agg #[.slice none 0 0,.slice none 0 0,.int .i64 0,.slice none 0 0,.slice none 0 0,.slice none 0 0,.int .i64 0,.int .u32 0,.int .u32 0,.int .i64 0,.int .u64 0,.int .u64 0],.agg #[.slice none 0 0,.slice none 0 0,.int .i64 0]] 8 rfl (World.shaped_of_RefB (by kernel_rfl) (by kernel_rfl)) (by kernel_rfl) (by kernel_rfl) (by kernel_rfl) (z6k os _)) ?_
 intro W base args ds gs before hval0 hW _ _ hL _
 have hT:=z3h hL
 have hval:∀ (j:Nat) t v,Tryz.f8.params[j]?=some t→args[j]?=some v→Value.okWide Tryz.prog W .any base t v:=hval0
 have hW':=hW
 obtain ⟨p,q,hA0,hV,rfl,hfz,hnd⟩:=hW
 have hA:DataW.TrodAll enc Tryz.prog W 0 (fun _=>true) true Tryz.f8.params.toList args.toList ds p:=hA0
 rw [Tryz.params8] at hA hval
 obtain ⟨v0,vs0,d0,ds0,p0,q0,hargs,rfl,rfl,h0,r0⟩:=trodAll_cons hA
 obtain ⟨v1,vs1,d1,ds1,p1,q1,rfl,rfl,rfl,h1,r1⟩:=trodAll_cons r0
 obtain ⟨rfl,rfl,rfl⟩:=trodAll_nil r1
 obtain rfl:args=#[v0,v1]:=by cases args;simp_all
 obtain ⟨rfl,rfl⟩:=trodVars_none hV
 obtain ⟨c0,w0,z0⟩:=z4q (hval 0 28 v0 rfl rfl) h0
 obtain ⟨c1,w1,z1⟩:=zrr (hval 1 81 v1 rfl rfl) h1
 clear hA0 hval0
 simp only [List.append_nil] at hW'
 refine (zsr v0 c0 v1 c1 W w0 z0 w1 z1 hT).mono fun e W' ⟨he,hsat⟩=>?_
 have bel:=hsat.below
 subst he
 exact ⟨_,rfl,_,_,_,[],_,[],hW',trodAll_mk1 (shut_bool Tryz.underlying4 _),(trodAll_cons_mk (Below.trod z7f (by kernel_rfl) (of_decide_eq_true (by kernel_rfl)) h0 bel (z2p h0)) (trodAll_cons_mk (Below.trod z7f (by kernel_rfl) (of_decide_eq_true (by kernel_rfl)) h1 bel (z2p h1)) trodAll_mk0)),rfl,bel.frame _,fun h=>by cases h⟩
theorem over:Rows.worldChecksRow.holds Tryz.pinned (OpenSpec.ofChange Rows.worldChecksSpec) :=
 OpenClaim.holds_of_wide 8 Tryz.f8 rfl rfl rfl rfl rfl rfl rfl ⟨rfl,rfl,rfl,rfl,rfl⟩ rfl rfl rfl rfl rfl (by as_aux_lemma=>kernel_rfl) Tryz.func8 (by as_aux_lemma=>kernel_rfl)
  (of_decide_eq_true (by as_aux_lemma=>kernel_rfl)) (by unfold Func.isWrapper;first | (rw [if_pos (by decide +kernel)];kernel_rfl) | (rw [if_neg (by decide +kernel)];exact ⟨rfl,rfl⟩))
  (fun os started H enc _=>lifted os started H enc)
theorem carded:Claim7.holds Tryz.pinned (.plain (OpenSpec.ofChange Rows.worldChecksSpec)) Rows.worldChecksCard :=
 Claim7.holds_tied_plain_at .later [] [.data] true _ false
  over (fun _ h=>by cases h) (by kernel_rfl) (fun _ h=>by cases h) worldChecks_row_tie rfl ⟨rfl,rfl⟩ (by kernel_rfl) rfl
  (fun f fn hf hfn=>by
   obtain rfl : f = 8 := Option.some.inj ((show Tryz.prog.funcNamed "taffrail/taffraillaw22.WorldChecks" = some 8 by kernel_rfl).symm.trans hf) |>.symm
   obtain rfl:fn=Tryz.f8:=(Option.some.inj (Tryz.func8.symm.trans hfn)).symm
   exact ⟨by kernel_rfl,fun j t ht=>by
    rw [Tryz.params8] at ht
    have hm:t∈[28,81]:=by simpa using Array.mem_of_getElem? ht
    have hall:([28,81].all fun u=>!Tryz.prog.wantsStandIn u)=true:=by kernel_rfl
    exact (show Tryz.prog.wantsStandIn t=false by simpa using List.all_eq_true.1 hall t hm)⟩)
  (by kernel_rfl)
end Go.Proofs.YtlbjjoeocdimfaaGreatDoor.worldChecks
namespace Go.Proofs.YtlbjjoeocdimfaaGreatDoor
theorem worldChecks_holds:Rows.WorldChecksCardSaid:=worldChecks.carded
#print axioms worldChecks_holds
end Go.Proofs.YtlbjjoeocdimfaaGreatDoor
