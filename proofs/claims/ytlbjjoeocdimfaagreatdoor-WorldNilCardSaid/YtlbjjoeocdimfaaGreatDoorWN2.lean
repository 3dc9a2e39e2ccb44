/-
  Parts of the proof: LNil WorldE WorldK.
-/
import Derived.Test.YtlbjjoeocdimfaaGreatDoorWN1
import Derived.Test.YtlbjjoeocdimfaaGreatDoorKD5
import Derived.Test.YtlbjjoeocdimfaaGreatDoorKD9
import Derived.Test.YtlbjjoeocdimfaaGreatDoorKD12
import Derived.Test.YtlbjjoeocdimfaaGreatDoorKD18
set_option linter.unusedVariables false
set_option linter.unusedSimpArgs false
set_option maxHeartbeats 32000000
set_option maxRecDepth 100000
namespace Go.Proofs.YtlbjjoeocdimfaaGreatDoor
open Go.RowKit Go.Sx Go.Dl Go.Lk Go.Rq Go.Au
def snZ:Sn:=⟨0,0,0,0,0,r80,[],[],0,0,[],[],[],[],[],[],[],[],[],[],0,false⟩
theorem zjo (w:World):zjC w (.agg zsP.toArray) snZ:=by
 have nl:∀ κ,RdN κ w (.slice none 0 0) []:=fun κ=>⟨none,0,0,0,rfl,Nat.le_refl _,Nat.zero_le _,fun h=>absurd rfl h,fun j hj=>absurd hj (Nat.not_lt_zero _)⟩;have rw0:∀ κ,z8J κ w (.slice none 0 0) []:=fun κ=>⟨[],z5D w,rfl,fun i hi=>absurd hi (Nat.not_lt_zero _)⟩;exact ⟨⟨.slice none 0 0,.slice none 0 0,.slice none 0 0,.slice none 0 0,.slice none 0 0,.slice none 0 0,.slice none 0 0,.slice none 0 0,.slice none 0 0,.slice none 0 0,.slice none 0 0,.slice none 0 0⟩,rfl,nl _,rw0 _,⟨[],z5D w,rfl,fun i hi=>absurd hi (Nat.not_lt_zero _)⟩,rw0 _,nl _,rw0 _,nl _,rw0 _,rw0 _,rw0 _,rw0 _,z5D w⟩
section
variable (w0 w:World) (P:HP) (hs:Sat w0 w P)
include hs
theorem zrc:Calls Tryz.prog 43 #[.pointer none] w (zp w0 (.int .i64 0) P):=by
 go_enter Tryz.func43,Tryz.ntmps43
 go_wp2_with fail;go_ret;exact ⟨rfl,hs⟩
theorem zrd:Calls Tryz.prog 39 #[.pointer none] w (zp w0 (.int .i64 0) P):=by
 go_enter Tryz.func39,Tryz.ntmps39
 go_wp2_with fail;go_ret;exact ⟨rfl,hs⟩
theorem zqX:Calls Tryz.prog 45 #[.pointer none] w (zp w0 (.tuple #[.int .u64 0,.int .u64 0]) P):=by
 go_enter Tryz.func45,Tryz.ntmps45
 go_wp2_with fail;go_returns;exact ⟨rfl,hs⟩
theorem zre (n:Int):Calls Tryz.prog 38 #[.pointer none,.int .i64 n] w (zp w0 (.slice none 0 0) P):=by
 go_enter Tryz.func38,Tryz.ntmps38
 go_wp2_with fail;go_ret;exact ⟨rfl,hs⟩
end
theorem zqY (w0 w:World) (P:HP) (hs:Sat w0 w P):Calls Tryz.prog 40 #[.pointer none] w (zp w0 (.agg zsP.toArray) any):=by
 go_enter Tryz.func40,Tryz.ntmps40
 go_wp2_with (first | (refine z09 (w0:=w0) (cells:=zsP) (old:=zsP) rfl rfl rfl rfl Go.Sx.own rfl (by kernel_rfl) rfl ?_;intro w5 hs5));refine bodyPost_ret (z3p Tryz.results40 rfl hs5 Tryz.underlying51 rfl (by kernel_rfl)) rfl ?_;exact ⟨rfl,z3⟩
theorem zqF (n:Int) (w0:World) (z1:(Lit.int .i64 n).wf=true) (hT:Tab w0) :
  Calls Tryz.prog 10 #[.int .i64 n] w0 (zp w0 (.bool true) emp):=by
 have hs:=Sat.start w0;have hAw:=hid (fun (w:World) (h:Sat w0 w any)=>zr9 w (hT.later h));clear hT z1
 go_enter Tryz.func10,Tryz.ntmps10
 go_wp2_with fail;refine (zqX w0 _ _ hs).mono ?_;rintro en w1 ⟨rfl,hs1⟩;clear hs;go_wp2_with fail;refine (hAw.out _ z3).mono ?_;rintro en w2 ⟨rfl,hp⟩;have hs2:=Sat.past (w0:=w0) z6 hp;clear hp hs1;go_wp2_with fail;refine (zre w0 _ _ hs2 n).mono ?_;rintro en w3 ⟨rfl,hs3⟩;clear hs2;go_wp2_with fail;refine (zrc w0 _ _ hs3).mono ?_;rintro en w4 ⟨rfl,hs4⟩;clear hs3;go_wp2_with fail;refine (zrd w0 _ _ hs4).mono ?_;rintro en w5 ⟨rfl,hs5⟩;clear hs4;go_wp2_with fail;refine (zqY w0 _ _ hs5).mono ?_;rintro en w6 ⟨rfl,hs6⟩;clear hs5;go_wp2_with fail;refine (zgi _ _ snZ snZ true (by simp) _ (zjo _) (zjo _)).mono ?_;rintro en w7 ⟨rfl,hp⟩;have hs7:=Sat.past (w0:=w0) z6 hp;clear hp hs6;go_wp2_with fail;go_ret;exact ⟨rfl,z3⟩
end Go.Proofs.YtlbjjoeocdimfaaGreatDoor
