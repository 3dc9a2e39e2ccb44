/-
  Parts of the proof: StPb.
-/
import Derived.Test.YtkeommmigopnkaaGreatDoorKF18
set_option linter.unusedVariables false
set_option linter.unusedSimpArgs false
set_option maxHeartbeats 32000000
set_option maxRecDepth 100000
namespace Go.Sx
open Go.RowKit
section
variable {α:Type} {sz:Nat} {E:Enc α sz}
end
end Go.Sx
namespace Go.Proofs.YtkeommmigopnkaaGreatDoor
open Go.RowKit Go.Sx Go.Dl Go.Lk Go.Rq Go.Au Go.Hi Go.St
theorem span_of {c:Cf} {l:List Ev} (G:GoodE c l) (h:FewP l):∀ i,i<l.length→(evg l i).co≤(evg l 0).co+1000:=fun i hi=>by
 have a:=chk_co G.ck i (l.length-1) (by omega) (by omega);have b:=chk_co G.ck 0 (l.length-1) (by omega) (by omega);have f:=fun j (hj:j<l.length)=>(G.ft _ (evg_mem hj)).1.co;have f0:=f 0 (by omega);have f1:=f (l.length-1) (by omega)
 rcases h.2 with h | h | h
 ·omega
 ·omega
 ·have e:w64 ((evg l (l.length-1)).co-(evg l 0).co)=(evg l (l.length-1)).co-(evg l 0).co:=Int.emod_eq_of_lt (by omega) (by omega);omega
end Go.Proofs.YtkeommmigopnkaaGreatDoor
