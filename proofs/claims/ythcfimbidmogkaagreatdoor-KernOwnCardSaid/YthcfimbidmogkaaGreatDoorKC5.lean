/-
  Parts of the proof: RefI.
-/
import Derived.Test.YthcfimbidmogkaaGreatDoorKC0
import Derived.Test.YthcfimbidmogkaaGreatDoorKC4
set_option linter.unusedVariables false
set_option linter.unusedSimpArgs false
set_option maxHeartbeats 32000000
set_option maxRecDepth 100000
namespace Go.Proofs.YthcfimbidmogkaaGreatDoor
open Go.RowKit Go.Sx
def zp5 (u:Nat):ByteArray:=⟨(((if u.testBit 0 then [65] else []:List UInt8)++((if u.testBit 1 then [66] else [])++((if u.testBit 2 then [67] else [])++((if u.testBit 3 then [68] else [])++(if u.testBit 4 then [75] else [])))))).toArray⟩
theorem zpi (op:Int) (w:World):Calls Tryz.prog 191 #[.int .i64 op] w fun e w'=>e=.returned (.string (zp5 (z0x op)))∧w=w':=by
 by_cases h:1≤op∧op≤38
 ·rcases zi7 h with rfl | rfl | rfl | rfl | rfl | rfl | rfl | rfl | rfl | rfl | rfl | rfl | rfl | rfl | rfl | rfl | rfl | rfl | rfl | rfl | rfl | rfl | rfl | rfl | rfl | rfl | rfl | rfl | rfl | rfl | rfl | rfl | rfl | rfl | rfl | rfl | rfl | rfl
  all_goals
   clear h
   go_enter Tryz.func191,Tryz.ntmps191
   go_wp2;go_ret;exact ⟨rfl,rfl⟩
 ·have hu:z0x op=0:=by unfold z0x;repeat rw [if_neg (by omega)]
  rw [hu];clear hu
  go_enter Tryz.func191,Tryz.ntmps191
  go_wp2
  all_goals
   go_ret;exact ⟨rfl,rfl⟩
def inS (s:ByteArray) (c:Int):Bool:=s.data.toList.any fun b=>decide ((b.toNat:Int)=c)
theorem zpu {s:ByteArray} {c:Int} {k:Nat} (hk:k<s.size) (h:((s[k]'hk).toNat:Int)=c):inS s c=true:=by
 unfold inS;rw [List.any_eq_true];exact ⟨s[k],by rw [ByteArray.getElem_eq_getElem_data];exact Array.getElem_mem_toList ..,by simpa using h⟩
theorem zp7 {s:ByteArray} {c:Int} (h:∀ k (hk:k<s.size),((s[k]'hk).toNat:Int)≠c):inS s c=false:=by
 unfold inS;rw [List.any_eq_false];intro b hb;obtain ⟨k,hk,rfl⟩:=List.getElem_of_mem hb;have e:=h k (show k<s.data.size by rw [← Array.length_toList];exact hk);rw [ByteArray.getElem_eq_getElem_data] at e;rw [Array.getElem_toList];exact fun h2=>e (of_decide_eq_true h2)
theorem zpy (s:ByteArray) (hs:s.size≤100) (c:Int) (w:World):Calls Tryz.prog 192 #[.string s,.int .u8 c] w fun e w'=>e=.returned (.bool (inS s c))∧w=w':=by
 go_enter Tryz.func192,Tryz.ntmps192
 go_wp2_with fail
 go_loopw [5] (fun i wr=>∃ k:Nat,k≤s.size∧i=.int .i64 k∧wr=w∧∀ j (hj:j<s.size),j<k→((s[j]'hj).toNat:Int)≠c) (fun i _=>s.size-(intOf i).toNat)
 case atStart=>exact ⟨0,Nat.zero_le _,rfl,by first | rfl | trivial,fun _ _ h=>absurd h (by omega)⟩
 case round =>
  obtain ⟨k,hk,rfl,rfl,hb⟩:=hrel;have Hb:=hid hb;clear hb
  by_cases hlt:k<s.size
  ·have d1:decide ((k:Int)<(s.size:Int))=true:=by simp;omega
   have i1:(k:Int)<s.size:=by omega
   by_cases e:((s[k]'hlt).toNat:Int)=c
   ·have hx:=hid (zpu hlt e);go_wp2_with fail
    all_goals
     go_ret;exact ⟨by rw [hx.out];rfl,by first | rfl | trivial⟩
   ·have hb2:=hid (show ∀ j (hj:j<s.size),j<k+1→((s[j]'hj).toNat:Int)≠c from fun j hj h=>by
     rcases Nat.lt_or_ge j k with h1 | h1
     ·exact Hb.out j hj h1
     ·obtain rfl:j=k:=by omega
      exact e)
    go_wp2_with fail;go_roundw
    case rel=>exact ⟨k+1,by omega,by go_num,by first | rfl | trivial,hb2.out⟩
    case measure=>simp [intOf];omega
  ·have hx:=hid (zp7 fun j hj=>Hb.out j hj (by omega));have d1:decide ((k:Int)<(s.size:Int))=false:=by simp;omega
   have i1:¬ (k:Int)<s.size:=by omega
   go_wp2_with fail
   all_goals
    go_ret;exact ⟨by rw [hx.out];rfl,by first | rfl | trivial⟩
theorem zoO (u:Nat) (h:u=17∨u=3∨u=19∨u=16∨u=1∨u=31∨u=21∨u=29∨u=5∨u=7∨u=0):(zp5 u).size≤100∧inS (zp5 u) 65=u.testBit 0∧inS (zp5 u) 66=u.testBit 1∧inS (zp5 u) 67=u.testBit 2∧inS (zp5 u) 68=u.testBit 3∧inS (zp5 u) 75=u.testBit 4:=by
 rcases h with rfl | rfl | rfl | rfl | rfl | rfl | rfl | rfl | rfl | rfl | rfl<;>decide
end Go.Proofs.YthcfimbidmogkaaGreatDoor
