/-
  StatJobs: for every input the law returns true, and each argument reads afterwards as before; its one listed variable tied tq9 the program's text.
-/
import Derived.Test.YtkeommmigopnkaaGreatDoorCards
import Derived.Test.YtkeommmigopnkaaGreatDoorTie
import Derived.SevenTiedAt
import Derived.Test.YtkeommmigopnkaaGreatDoorKF0
import Derived.Test.YtkeommmigopnkaaGreatDoorKF1
import Derived.Test.YtkeommmigopnkaaGreatDoorKF2
import Derived.Test.YtkeommmigopnkaaGreatDoorKF3
import Derived.Test.YtkeommmigopnkaaGreatDoorKF4
import Derived.Test.YtkeommmigopnkaaGreatDoorKF5
import Derived.Test.YtkeommmigopnkaaGreatDoorKF6
import Derived.Test.YtkeommmigopnkaaGreatDoorKF7
import Derived.Test.YtkeommmigopnkaaGreatDoorKF8
import Derived.Test.YtkeommmigopnkaaGreatDoorKF9
import Derived.Test.YtkeommmigopnkaaGreatDoorKF10
import Derived.Test.YtkeommmigopnkaaGreatDoorKF11
import Derived.Test.YtkeommmigopnkaaGreatDoorKF12
import Derived.Test.YtkeommmigopnkaaGreatDoorKF13
import Derived.Test.YtkeommmigopnkaaGreatDoorKF14
import Derived.Test.YtkeommmigopnkaaGreatDoorKF15
import Derived.Test.YtkeommmigopnkaaGreatDoorKF16
import Derived.Test.YtkeommmigopnkaaGreatDoorKF17
import Derived.Test.YtkeommmigopnkaaGreatDoorKF18
import Derived.Test.YtkeommmigopnkaaGreatDoorKF19
import Derived.Test.YtkeommmigopnkaaGreatDoorKF20
import Derived.Test.YtkeommmigopnkaaGreatDoorKF21
import Derived.Test.YtkeommmigopnkaaGreatDoorKF22
import Derived.Test.YtkeommmigopnkaaGreatDoorKF23
import Derived.Test.YtkeommmigopnkaaGreatDoorKF24
import Derived.Test.YtkeommmigopnkaaGreatDoorLJ0
set_option linter.unusedVariables false
set_option linter.unusedSimpArgs false
set_option maxHeartbeats 32000000
set_option maxRecDepth 100000
namespace Go.Proofs.YtkeommmigopnkaaGreatDoor.statJobs
open Go.ChangeShapes Go.WideShapes Go.ChangeAt Go.RowKit Go.Sx
open Go.ChangeMaps (open_string shut_string)
theorem lifted (os:Os) (started:os.Started) (H:Type) (enc:TypeId×Value→H) :
  ReturnsInHanded {} Tryz.checked os 3 .any (fun w args=>(Rows.statJobsSpec.pre enc Tryz.prog Tryz.f3 [] false w args∧laidMetH Tryz.prog laidT w)∧sizedMet enc Tryz.prog Tryz.f3 (OpenSpec.ofChange Rows.statJobsSpec) false w args)
   (Rows.statJobsSpec.post enc Tryz.prog Tryz.f3 false true false false):=by
 refine returnsInHanded_of_change_and (C:=Tryz.checked) (X:=fun w _=>laidMetH Tryz.prog laidT w) (fun _ _ _ hh h=>h.of_heap hh) ownK started (by kernel_rfl) Tryz.func3
  (ChangeSpec.witness_shaped (enc:=enc) (C:=Tryz.checked) (os:=os) (X:=fun w _=>laidMetH Tryz.prog laidT w) false (World.doorLaid Tryz.prog 400 os) #[.agg #[.slice none 0 0,.slice none 0 0,.int .i64 0,.slice none 0 0,.slice none 0 0,.slice none 0 0,.int .i64 0,.int .u32 0,.int .u32 0,.int .i64 0,.int .u64 0,.int .u64 0],.slice none 0 0] 8 rfl (World.shaped_of_RefB (by kernel_rfl) (by kernel_rfl)) (by kernel_rfl) (by kernel_rfl) (by kernel_rfl) (door_met os _)) ?_
 intro W base args ds gs before hval0 hW _ _ hL _
 have hT:=tab_of_laid hL
 have hval:∀ (j:Nat) t v,Tryz.f3.params[j]?=some t→args[j]?=some v→Value.okWide Tryz.prog W .any base t v:=hval0
 have hW':=hW
 obtain ⟨p,q,hA0,hV,rfl,hfz,hnd⟩:=hW
 have hA:DataW.TrodAll enc Tryz.prog W 0 (fun _=>true) true Tryz.f3.params.toList args.toList ds p:=hA0
 rw [Tryz.params3] at hA hval
 obtain ⟨v0,vs0,d0,ds0,p0,q0,hargs,rfl,rfl,h0,r0⟩:=trodAll_cons hA
 obtain ⟨v1,vs1,d1,ds1,p1,q1,rfl,rfl,rfl,h1,r1⟩:=trodAll_cons r0
 obtain ⟨rfl,rfl,rfl⟩:=trodAll_nil r1
 obtain rfl:args=#[v0,v1]:=by cases args;simp_all
 obtain ⟨rfl,rfl⟩:=trodVars_none hV
 obtain ⟨c0,w0,z0⟩:=opened_conf (hval 0 28 v0 rfl rfl) h0
 obtain ⟨n1,f1,w1,s1⟩:=opened_structs (κs:=kEv) Tryz.underlying29 Tryz.underlying45 (fun c κ hc=>by
  match c,hc with
  | 0,hc=>cases hc;exact ⟨_,rfl,rfl,by kernel_rfl,by kernel_rfl⟩
  | 1,hc=>cases hc;exact ⟨_,rfl,rfl,by kernel_rfl,by kernel_rfl⟩
  | 2,hc=>cases hc;exact ⟨_,rfl,rfl,by kernel_rfl,by kernel_rfl⟩
  | 3,hc=>cases hc;exact ⟨_,rfl,rfl,by kernel_rfl,by kernel_rfl⟩
  | 4,hc=>cases hc;exact ⟨_,rfl,rfl,by kernel_rfl,by kernel_rfl⟩
  | 5,hc=>cases hc;exact ⟨_,rfl,rfl,by kernel_rfl,by kernel_rfl⟩
  | c+6,hc=>exact absurd hc (by simp)) (by kernel_rfl) (by decide) (hval 1 29 v1 rfl rfl) h1
 clear hA0 hval0
 simp only [List.append_nil] at hW'
 refine (statJobs_walk v0 c0 v1 n1 f1 W w0 z0 w1 hT).mono fun e W' ⟨he,hsat⟩=>?_
 have bel:=hsat.below
 subst he
 exact ⟨_,rfl,_,_,_,[],_,[],hW',trodAll_mk1 (shut_bool Tryz.underlying4 _),(trodAll_cons_mk (Below.trod laidOut (by kernel_rfl) (of_decide_eq_true (by kernel_rfl)) h0 bel (trod_places h0)) (trodAll_cons_mk (Below.trod laidOut (by kernel_rfl) (of_decide_eq_true (by kernel_rfl)) h1 bel (trod_places h1)) trodAll_mk0)),rfl,bel.frame _,fun h=>by cases h⟩
end Go.Proofs.YtkeommmigopnkaaGreatDoor.statJobs
