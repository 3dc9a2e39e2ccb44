/-
  AuditAccepts: for every input the law returns true, and each argument reads afterwards as before; its one listed variable tied to the program's text.
-/
import Derived.Test.YtgiiidminlhbpaaGreatDoorCards
import Derived.Test.YtgiiidminlhbpaaGreatDoorTie
import Derived.SevenTiedAt
import Derived.Test.YtgiiidminlhbpaaGreatDoorKD0
import Derived.Test.YtgiiidminlhbpaaGreatDoorKD1
import Derived.Test.YtgiiidminlhbpaaGreatDoorKD2
import Derived.Test.YtgiiidminlhbpaaGreatDoorKD3
import Derived.Test.YtgiiidminlhbpaaGreatDoorKD4
import Derived.Test.YtgiiidminlhbpaaGreatDoorKD5
import Derived.Test.YtgiiidminlhbpaaGreatDoorKD6
import Derived.Test.YtgiiidminlhbpaaGreatDoorKD7
import Derived.Test.YtgiiidminlhbpaaGreatDoorKD8
import Derived.Test.YtgiiidminlhbpaaGreatDoorKD9
import Derived.Test.YtgiiidminlhbpaaGreatDoorKD10
import Derived.Test.YtgiiidminlhbpaaGreatDoorKD11
import Derived.Test.YtgiiidminlhbpaaGreatDoorKD12
import Derived.Test.YtgiiidminlhbpaaGreatDoorKD13
import Derived.Test.YtgiiidminlhbpaaGreatDoorKD14
import Derived.Test.YtgiiidminlhbpaaGreatDoorKD15
import Derived.Test.YtgiiidminlhbpaaGreatDoorKD16
import Derived.Test.YtgiiidminlhbpaaGreatDoorKD17
import Derived.Test.YtgiiidminlhbpaaGreatDoorKD18
set_option linter.unusedVariables false
set_option linter.unusedSimpArgs false
set_option maxHeartbeats 32000000
set_option maxRecDepth 100000
namespace Go.Proofs.YtgiiidminlhbpaaGreatDoor.auditAccepts
open Go.ChangeShapes Go.WideShapes Go.ChangeAt Go.RowKit Go.Sx
open Go.ChangeMaps (open_string shut_string)
theorem lifted (os:Os) (started:os.Started) (H:Type) (enc:TypeId×Value→H) :
  ReturnsInHanded {} Tryz.checked os 3 .any (fun w args=>(Rows.auditAcceptsSpec.pre enc Tryz.prog Tryz.f3 [] false w args∧laidMetH Tryz.prog z4M w)∧sizedMet enc Tryz.prog Tryz.f3 (OpenSpec.ofChange Rows.auditAcceptsSpec) false w args)
   (Rows.auditAcceptsSpec.post enc Tryz.prog Tryz.f3 false true false false):=by
 refine returnsInHanded_of_change_and (C:=Tryz.checked) (X:=fun w _=>laidMetH Tryz.prog z4M w) (fun _ _ _ hh h=>h.of_heap hh) zsF started (by kernel_rfl) Tryz.func3
  (ChangeSpec.witness_shaped (enc:=enc) (C:=Tryz.checked) (os:=os) (X:=fun w _=>laidMetH Tryz.prog z4M w) false (World.doorLaid Tryz.prog 400 os) #[.agg #[.slice none 0 0,.slice none 0 0,.int .i64 0,.slice none 0 0,.slice none 0 0,.slice none 0 0,.int .i64 0,.int .u32 0,.int .u32 0,.int .i64 0,.int .u64 0,.int .u64 0],.agg #[.slice none 0 0,.slice none 0 0,.int .i64 0]] 8 rfl (World.shaped_of_RefB (by kernel_rfl) (by kernel_rfl)) (by kernel_rfl) (by kernel_rfl) (by kernel_rfl) (z6k os _)) ?_
 intro W base args ds gs before hval0 hW _ _ hL _
 have hT:=z3h hL
 have hval:∀ (j:Nat) t v,Tryz.f3.params[j]?=some t→args[j]?=some v→Value.okWide Tryz.prog W .any base t v:=hval0
 have hW':=hW
 obtain ⟨p,q,hA0,hV,rfl,hfz,hnd⟩:=hW
 have hA:DataW.TrodAll enc Tryz.prog W 0 (fun _=>true) true Tryz.f3.params.toList args.toList ds p:=hA0
 rw [Tryz.params3] at hA hval
 obtain ⟨v0,vs0,d0,ds0,p0,q0,hargs,rfl,rfl,h0,r0⟩:=trodAll_cons hA
 obtain ⟨v1,vs1,d1,ds1,p1,q1,rfl,rfl,rfl,h1,r1⟩:=trodAll_cons r0
 obtain ⟨rfl,rfl,rfl⟩:=trodAll_nil r1
 obtain rfl:args=#[v0,v1]:=by cases args;simp_all
 obtain ⟨rfl,rfl⟩:=trodVars_none hV
 obtain ⟨c0,w0,z0⟩:=z4q (hval 0 28 v0 rfl rfl) h0
 obtain ⟨c1,w1,z1⟩:=zrr (hval 1 32 v1 rfl rfl) h1
 clear hA0 hval0
 simp only [List.append_nil] at hW'
 refine (ztk v0 c0 v1 c1 W w0 z0 w1 z1 hT).mono fun e W' ⟨he,hsat⟩=>?_
 have bel:=hsat.below
 subst he
 exact ⟨_,rfl,_,_,_,[],_,[],hW',trodAll_mk1 (shut_bool Tryz.underlying4 _),(trodAll_cons_mk (Below.trod z7f (by kernel_rfl) (of_decide_eq_true (by kernel_rfl)) h0 bel (z2p h0)) (trodAll_cons_mk (Below.trod z7f (by kernel_rfl) (of_decide_eq_true (by kernel_rfl)) h1 bel (z2p h1)) trodAll_mk0)),rfl,bel.frame _,fun h=>by cases h⟩
theorem over:Rows.auditAcceptsRow.holds Tryz.pinned (OpenSpec.ofChange Rows.auditAcceptsSpec) :=
 OpenClaim.holds_of_wide 3 Tryz.f3 rfl rfl rfl rfl rfl rfl rfl ⟨rfl,rfl,rfl,rfl,rfl⟩ rfl rfl rfl rfl rfl (by as_aux_lemma=>kernel_rfl) Tryz.func3 (by as_aux_lemma=>kernel_rfl)
  (of_decide_eq_true (by as_aux_lemma=>kernel_rfl)) (by unfold Func.isWrapper;first | (rw [if_pos (by decide +kernel)];kernel_rfl) | (rw [if_neg (by decide +kernel)];exact ⟨rfl,rfl⟩))
  (fun os started H enc _=>lifted os started H enc)
theorem carded:Claim7.holds Tryz.pinned (.plain (OpenSpec.ofChange Rows.auditAcceptsSpec)) Rows.auditAcceptsCard :=
 Claim7.holds_tied_plain_at .later [] [.data] true _ false
  over (fun _ h=>by cases h) (by kernel_rfl) (fun _ h=>by cases h) auditAccepts_row_tie rfl ⟨rfl,rfl⟩ (by kernel_rfl) rfl
  (fun f fn hf hfn=>by
   obtain rfl : f = 3 := Option.some.inj ((show Tryz.prog.funcNamed "taffrail/taffraillaw26.AuditAccepts" = some 3 by kernel_rfl).symm.trans hf) |>.symm
   obtain rfl:fn=Tryz.f3:=(Option.some.inj (Tryz.func3.symm.trans hfn)).symm
   exact ⟨by kernel_rfl,fun j t ht=>by
    rw [Tryz.params3] at ht
    have hm:t∈[28,32]:=by simpa using Array.mem_of_getElem? ht
    have hall:([28,32].all fun u=>!Tryz.prog.wantsStandIn u)=true:=by kernel_rfl
    exact (show Tryz.prog.wantsStandIn t=false by simpa using List.all_eq_true.1 hall t hm)⟩)
  (by kernel_rfl)
end Go.Proofs.YtgiiidminlhbpaaGreatDoor.auditAccepts
namespace Go.Proofs.YtgiiidminlhbpaaGreatDoor
theorem auditAccepts_holds:Rows.AuditAcceptsCardSaid:=auditAccepts.carded
#print axioms auditAccepts_holds
end Go.Proofs.YtgiiidminlhbpaaGreatDoor
