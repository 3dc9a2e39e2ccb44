/-
  Parts of the proof: AwX.
-/
import Derived.Test.YtkeommmigopnkaaGreatDoorProg
import Derived.Test.YtkeommmigopnkaaGreatDoorKF2
import Derived.Test.YtkeommmigopnkaaGreatDoorKF4
set_option linter.unusedVariables false
set_option linter.unusedSimpArgs false
set_option maxHeartbeats 32000000
set_option maxRecDepth 100000
namespace Go.Proofs.YtkeommmigopnkaaGreatDoor
open Go.RowKit Go.Sx Go.Vm
def tab32:List Value:=[0,1,28,2,29,14,24,3,30,22,20,15,25,17,4,8,31,27,13,23,21,19,16,7,26,12,18,6,11,5,10,9].map fun n=>Value.int .u8 n
theorem aw28:yes Tryz.prog 0 3000 60 ⟨(T.e:T Blk).set FU 0 (.ro tab32.length (wr .e 0 tab32)),0+1⟩ 6 []=true:=by kernel_rfl
theorem Sat.of_below {w0 w:World} (h:Below w0.heap.size w0 w):Sat w0 w emp:=⟨h,fun _ _=>none,fun _ _=>rfl,fun _ _ _ h=>by cases h⟩
theorem tab_at {w:World} (hT:Tab w):∀ (j:Nat) (v:Value),tab32[j]?=some v→w.cell? ⟨0,j,none⟩=some v:=fun j v hj=>by
 have hl:j<32:=(List.getElem?_eq_some_iff.1 hj).1;rw [hT j hl,← hj];have key:∀ j,j<Lib.deBruijn32tab.length→tab32[j]?=some (Value.int .u8 (Lib.deBruijn32tab.getD j 0)):=fun j hj=>by
  rw [show tab32=Lib.deBruijn32tab.map (fun n:Nat=>Value.int .u8 n) from rfl,List.getElem?_map,List.getElem?_eq_getElem hj];simp [List.getD,hj]
 exact (key j hl).symm
theorem lawAwake28 (w:World) (hT:Tab w):Calls Tryz.prog 6 #[] w (RetV w (.bool true) emp):=by
 have h0:=tab_at hT 0 _ rfl;have hG:0<w.heap.size:=by
  apply Decidable.byContradiction;intro h;have hn:w.heap[0]?=none:=Array.getElem?_eq_none (by omega);simp [World.cell?,hn] at h0
 exact (yes_calls (by kernel_rfl) hG (by rfl) (tab_at hT) aw28).mono (by rintro e w' ⟨rfl,h⟩;exact ⟨rfl,Sat.of_below h⟩)
end Go.Proofs.YtkeommmigopnkaaGreatDoor
