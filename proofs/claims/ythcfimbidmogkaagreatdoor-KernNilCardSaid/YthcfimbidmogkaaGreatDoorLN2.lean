/-
  Parts of the proof: KernAc LNil.
-/
import Derived.Test.YthcfimbidmogkaaGreatDoorLN1
import Derived.Test.YthcfimbidmogkaaGreatDoorKB1
import Derived.Test.YthcfimbidmogkaaGreatDoorKB5
import Derived.Test.YthcfimbidmogkaaGreatDoorKB6
import Derived.Test.YthcfimbidmogkaaGreatDoorKB7
import Derived.Test.YthcfimbidmogkaaGreatDoorKB8
import Derived.Test.YthcfimbidmogkaaGreatDoorKB9
import Derived.Test.YthcfimbidmogkaaGreatDoorKB13
import Derived.Test.YthcfimbidmogkaaGreatDoorKB15
set_option linter.unusedVariables false
set_option linter.unusedSimpArgs false
set_option maxHeartbeats 32000000
set_option maxRecDepth 100000
namespace Go.Proofs.YthcfimbidmogkaaGreatDoor
open Go.RowKit Go.Sx Go.Dl Go.Lk Go.Rq Go.Au
section
variable (b : Nat) (x : Fx) (c : Cf) (K : Kn) (w0 w : World) (F : HP) (hs : Sat w0 w (knP b x c K * F))
include hs
end
section
variable (w0 w : World) (P : HP) (hs : Sat w0 w P)
include hs
theorem zbO : Calls Tryz.prog 25 #[.pointer none] w (zp w0 (.tuple #[.int .u64 0,.int .u64 0]) P):=by
 go_enter Tryz.func25,Tryz.ntmps25
 go_wp2_with fail;go_returns;exact ⟨rfl,hs⟩
theorem zbH : Calls Tryz.prog 32 #[.pointer none] w (zp w0 (.int .u64 0) P):=by
 go_enter Tryz.func32,Tryz.ntmps32
 go_wp2_with fail;go_ret;exact ⟨rfl,hs⟩
theorem z98 : Calls Tryz.prog 24 #[.pointer none] w (zp w0 (.bool false) P):=by
 go_enter Tryz.func24,Tryz.ntmps24
 go_wp2_with fail;go_ret;exact ⟨rfl,hs⟩
theorem z8o : Calls Tryz.prog 26 #[.pointer none] w (zp w0 (.slice none 0 0) P):=by
 go_enter Tryz.func26,Tryz.ntmps26
 go_wp2_with fail;go_ret;exact ⟨rfl,hs⟩
theorem z7b (y : Nat) : Calls Tryz.prog 28 #[.pointer none,.int .u32 y] w (zp w0 (.slice none 0 0) P):=by
 go_enter Tryz.func28,Tryz.ntmps28
 go_wp2_with fail;go_ret;exact ⟨rfl,hs⟩
theorem zam (y : Int) : Calls Tryz.prog 30 #[.pointer none,.int .u32 y] w (zp w0 (.slice none 0 0) P):=by
 go_enter Tryz.func30,Tryz.ntmps30
 go_wp2_with fail;go_ret;exact ⟨rfl,hs⟩
end
section
variable {c : Cf} {K : Kn} {value : Int}
end
instance (w : World) : RdC w zjV (.slice none 0 0) []:=⟨z5D w⟩
theorem zdY (y : Nat) (u : Int) (w0 w : World) (P : HP) (hs : Sat w0 w P) :
  Calls Tryz.prog 19 #[.pointer none,.int .u32 y,.int .u32 u] w (Ret w0 fun v=>z7 v ([] : List Ev) * P):=by
 have hs1 : Sat w0 w (z7 (.slice none 0 0) ([] : List Ev) * P):=hs.perm (by rw [z03,zm]);clear hs
 go_enter Tryz.func19,Tryz.ntmps19
 go_wp2_with fail;refine (z8o w0 _ _ hs1).mono ?_;rintro en w2 ⟨rfl,hs2⟩;clear hs1;go_wp2_with fail;refine (z7b w0 _ _ hs2 y).mono ?_;rintro en w3 ⟨rfl,hs3⟩;clear hs2;go_wp2_with (first | (at_builtin;refine zA rfl rfl rfl rfl (by omega) ?_;intro ap ac aL aw ahL ah1 ah2 ahs _) | (refine z07 rfl rfl rfl rfl (by omega) (by omega) ?_;intro px pc pL php phL ph1 ph2) | (refine z0r rfl rfl rfl rfl (by omega) (by omega) ?_;intro px pc pL php phL ph1 ph2));refine (zam w0 _ _ ahs u).mono ?_;rintro en w4 ⟨rfl,hs4⟩;clear hs3;go_wp2_with (first | (at_builtin;refine zA rfl rfl rfl rfl (by omega) ?_;intro ap ac aL aw ahL ah1 ah2 ahs _) | (refine z07 rfl rfl rfl rfl (by omega) (by omega) ?_;intro px pc pL php phL ph1 ph2) | (refine z0r rfl rfl rfl rfl (by omega) (by omega) ?_;intro px pc pL php phL ph1 ph2));go_ret;refine ⟨_,rfl,?_⟩;unfold Hid at *
 subst_vars
 show Sat w0 _ (z7 (.slice ap _ ac) ([] ++ [] ++ []) * P);exact z3
abbrev z29 : List Value:=[.int .u64 0,.int .u64 0,.int .i64 0,.int .i64 0,.int .i64 0,.int .u32 0,.int .u32 0,.int .u32 0,.int .u32 0,.int .u32 0,.int .u32 0,.int .u32 0,.int .u32 0,.slice none 0 0,.slice none 0 0,.int .u32 0,.int .u32 0,.slice none 0 0,.slice none 0 0,.slice none 0 0,.slice none 0 0,.slice none 0 0,.slice none 0 0,.slice none 0 0,.slice none 0 0,.slice none 0 0,.slice none 0 0,.int .u64 0,.bool false]
def snZ : Sn:=⟨0,0,0,0,0,r80,[],[],0,0,[],[],[],[],[],[],[],[],[],[],0,false⟩
theorem zjo (w : World) : zjC w (.agg z29.toArray) snZ:=by
 have nl : ∀ κ,RdN κ w (.slice none 0 0) []:=fun κ=>⟨none,0,0,0,rfl,Nat.le_refl _,Nat.zero_le _,fun h=>absurd rfl h,fun j hj=>absurd hj (Nat.not_lt_zero _)⟩;have rw0 : ∀ κ,z8J κ w (.slice none 0 0) []:=fun κ=>⟨[],z5D w,rfl,fun i hi=>absurd hi (Nat.not_lt_zero _)⟩;exact ⟨⟨.slice none 0 0,.slice none 0 0,.slice none 0 0,.slice none 0 0,.slice none 0 0,.slice none 0 0,.slice none 0 0,.slice none 0 0,.slice none 0 0,.slice none 0 0,.slice none 0 0,.slice none 0 0⟩,rfl,nl _,rw0 _,⟨[],z5D w,rfl,fun i hi=>absurd hi (Nat.not_lt_zero _)⟩,rw0 _,nl _,rw0 _,nl _,rw0 _,rw0 _,rw0 _,rw0 _,z5D w⟩
theorem zbQ (w0 w : World) (P : HP) (hs : Sat w0 w P) : Calls Tryz.prog 17 #[.pointer none] w (zp w0 (.agg z29.toArray) any):=by
 go_enter Tryz.func17,Tryz.ntmps17
 go_wp2_with (first | (refine z09 (w0:=w0) (cells:=z29) (old:=z29) rfl rfl rfl rfl Go.Sx.own rfl (by kernel_rfl) rfl ?_;intro w5 hs5));refine bodyPost_ret (z3p Tryz.results17 rfl hs5 Tryz.underlying51 rfl (by kernel_rfl)) rfl ?_;exact ⟨rfl,z3⟩
theorem zal (u1 u2 : Int) (w0 : World) (z1 : (Lit.int .u32 u1).wf = true) (z2 : (Lit.int .u32 u2).wf = true) (hT : Tab w0) :
  Calls Tryz.prog 9 #[.int .u32 u1,.int .u32 u2] w0 (zp w0 (.bool true) emp):=by
 have hs:=Sat.start w0;have hAw:=hid (fun (w : World) (h : Sat w0 w any)=>z6t w (hT.later h));have r1:=zbk z1;obtain ⟨n,rfl⟩ : ∃ n : Nat,u1 = (n : Int):=Int.eq_ofNat_of_zero_le r1.1;clear hT z1 z2 r1
 go_enter Tryz.func9,Tryz.ntmps9
 go_wp2_with fail;refine (zbO w0 _ _ hs).mono ?_;rintro en w1 ⟨rfl,hs1⟩;clear hs;go_wp2_with fail;refine (z8o w0 _ _ hs1).mono ?_;rintro en w2 ⟨rfl,hs2⟩;clear hs1;go_wp2_with fail;refine (z7b w0 _ _ hs2 n).mono ?_;rintro en w3 ⟨rfl,hs3⟩;clear hs2;go_wp2_with fail;refine (zam w0 _ _ hs3 u2).mono ?_;rintro en w4 ⟨rfl,hs4⟩;clear hs3;go_wp2_with fail;refine (zdY n u2 w0 _ _ hs4).mono ?_;rintro en w5 ⟨v5,rfl,hs5⟩;obtain ⟨va,vc,rfl⟩:=hs5.slice_form;clear hs4;go_wp2_with fail;refine (hAw.out _ z3).mono ?_;rintro en w6 ⟨rfl,hp⟩;have hs6:=Sat.past (w0:=w0) z6 hp;clear hp hs5;go_wp2_with fail;refine (zbH w0 _ _ hs6).mono ?_;rintro en w7 ⟨rfl,hs7⟩;clear hs6;go_wp2_with fail;refine (z98 w0 _ _ hs7).mono ?_;rintro en w8 ⟨rfl,hs8⟩;clear hs7;go_wp2_with fail;refine (zbQ w0 _ _ hs8).mono ?_;rintro en w9 ⟨rfl,hs9⟩;clear hs8;go_wp2_with fail;refine (zgi _ _ snZ snZ true (by simp) _ (zjo _) (zjo _)).mono ?_;rintro en w10 ⟨rfl,hp⟩;have hs10:=Sat.past (w0:=w0) z6 hp;clear hp hs9;go_wp2_with fail;go_ret;exact ⟨rfl,z3⟩
end Go.Proofs.YthcfimbidmogkaaGreatDoor
