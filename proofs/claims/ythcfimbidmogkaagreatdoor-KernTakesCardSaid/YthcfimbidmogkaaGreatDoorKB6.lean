/-
  Parts of the proof: KernT Evs ReadyA KernA Cpu KernB CpuB ReadyB ReadyC.
-/
import Derived.Test.YthcfimbidmogkaaGreatDoorProg
import Derived.Deep.QuietTactic
import Derived.BigQuiet
import Derived.StillTailTactics
import Derived.Deep.DeepCutAuto
import Derived.Deep.CutBlock
import Derived.WalkSpells
import Derived.Test.YthcfimbidmogkaaGreatDoorKB0
import Derived.Test.YthcfimbidmogkaaGreatDoorKB1
import Derived.Test.YthcfimbidmogkaaGreatDoorKB2
import Derived.Test.YthcfimbidmogkaaGreatDoorKB4
import Derived.Test.YthcfimbidmogkaaGreatDoorKB5
set_option linter.unusedVariables false
set_option linter.unusedSimpArgs false
set_option maxHeartbeats 32000000
set_option maxRecDepth 100000
namespace Go.Proofs.YthcfimbidmogkaaGreatDoor
open Go.RowKit Go.Sx Go.Dl Go.Lk Go.Rq Go.Au
theorem z2V (K : Kn) (t : Nat) (s r : Ts) : (K.setT t s).setT t r = K.setT t r:=by unfold Kn.setT;simp
@[simp,go_sem] theorem z8 (K : Kn) (t : Nat) (s : Ts) : (K.setT t s).T t = s:=zK _ _ _
def Kn.wSt (K : Kn) (t : Nat) (v : Int) : Kn:=K.setT t { K.T t with st:=v }
def Kn.wLev (K : Kn) (t : Nat) (v : Int) : Kn:=K.setT t { K.T t with lev:=v }
def Kn.wOn (K : Kn) (t : Nat) (v : Int) : Kn:=K.setT t { K.T t with on:=v }
def Kn.wLate (K : Kn) (t : Nat) (v : Int) : Kn:=K.setT t { K.T t with late:=v }
def Kn.wJob (K : Kn) (t : Nat) (v : Int) : Kn:=K.setT t { K.T t with job:=v }
def Kn.wAt (K : Kn) (t : Nat) (v : Int) : Kn:=K.setT t { K.T t with at_:=v }
def Kn.wReg (K : Kn) (t n : Nat) (v : Int) : Kn:=K.setT t { K.T t with rg:=(K.T t).rg.set n v }
@[simp,go_sem] theorem Kn.wSt_count (K : Kn) (t : Nat) (v : Int) : (K.wSt t v).count = K.count:=rfl
@[simp,go_sem] theorem Kn.wSt_cycle (K : Kn) (t : Nat) (v : Int) : (K.wSt t v).cycle = K.cycle:=rfl
@[simp,go_sem] theorem Kn.wSt_told (K : Kn) (t : Nat) (v : Int) : (K.wSt t v).told = K.told:=rfl
@[simp,go_sem] theorem Kn.wSt_S (K : Kn) (t : Nat) (v : Int) : (K.wSt t v).S = K.S:=rfl
@[simp,go_sem] theorem Kn.wSt_R (K : Kn) (t : Nat) (v : Int) : (K.wSt t v).R = K.R:=rfl
@[simp,go_sem] theorem Kn.wSt_run (K : Kn) (t : Nat) (v : Int) : (K.wSt t v).run = K.run:=rfl
@[simp,go_sem] theorem Kn.wSt_iat (K : Kn) (t : Nat) (v : Int) : (K.wSt t v).iat = K.iat:=rfl
@[simp,go_sem] theorem Kn.wSt_irg (K : Kn) (t : Nat) (v : Int) : (K.wSt t v).irg = K.irg:=rfl
@[simp,go_sem] theorem Kn.wSt_mems (K : Kn) (t : Nat) (v : Int) : (K.wSt t v).mems = K.mems:=rfl
@[simp,go_sem] theorem Kn.wSt_tm (K : Kn) (t : Nat) (v : Int) : (K.wSt t v).tm = K.tm:=rfl
@[simp,go_sem] theorem Kn.wSt_L (K : Kn) (t : Nat) (v : Int) : (K.wSt t v).L = K.L:=rfl
@[simp,go_sem] theorem Kn.wSt_sm (K : Kn) (t : Nat) (v : Int) : (K.wSt t v).sm = K.sm:=rfl
@[simp,go_sem] theorem Kn.wSt_ml (K : Kn) (t : Nat) (v : Int) : (K.wSt t v).ml = K.ml:=rfl
@[simp,go_sem] theorem Kn.wSt_ln (K : Kn) (t : Nat) (v : Int) : (K.wSt t v).ln = K.ln:=rfl
@[simp,go_sem] theorem Kn.wSt_reads (K : Kn) (t : Nat) (v : Int) : (K.wSt t v).reads = K.reads:=rfl
@[simp,go_sem] theorem Kn.wSt_stopped (K : Kn) (t : Nat) (v : Int) : (K.wSt t v).stopped = K.stopped:=rfl
@[simp,go_sem] theorem Kn.wSt_T_lev (K : Kn) (t : Nat) (v : Int) : ((K.wSt t v).T t).lev = (K.T t).lev:=by unfold Kn.wSt;rw [z8]
@[simp,go_sem] theorem Kn.wSt_T_on (K : Kn) (t : Nat) (v : Int) : ((K.wSt t v).T t).on = (K.T t).on:=by unfold Kn.wSt;rw [z8]
@[simp,go_sem] theorem Kn.wSt_T_job (K : Kn) (t : Nat) (v : Int) : ((K.wSt t v).T t).job = (K.T t).job:=by unfold Kn.wSt;rw [z8]
@[simp,go_sem] theorem Kn.wLev_count (K : Kn) (t : Nat) (v : Int) : (K.wLev t v).count = K.count:=rfl
@[simp,go_sem] theorem Kn.wLev_cycle (K : Kn) (t : Nat) (v : Int) : (K.wLev t v).cycle = K.cycle:=rfl
@[simp,go_sem] theorem Kn.wLev_told (K : Kn) (t : Nat) (v : Int) : (K.wLev t v).told = K.told:=rfl
@[simp,go_sem] theorem Kn.wLev_S (K : Kn) (t : Nat) (v : Int) : (K.wLev t v).S = K.S:=rfl
@[simp,go_sem] theorem Kn.wLev_R (K : Kn) (t : Nat) (v : Int) : (K.wLev t v).R = K.R:=rfl
@[simp,go_sem] theorem Kn.wLev_run (K : Kn) (t : Nat) (v : Int) : (K.wLev t v).run = K.run:=rfl
@[simp,go_sem] theorem Kn.wLev_iat (K : Kn) (t : Nat) (v : Int) : (K.wLev t v).iat = K.iat:=rfl
@[simp,go_sem] theorem Kn.wLev_irg (K : Kn) (t : Nat) (v : Int) : (K.wLev t v).irg = K.irg:=rfl
@[simp,go_sem] theorem Kn.wLev_mems (K : Kn) (t : Nat) (v : Int) : (K.wLev t v).mems = K.mems:=rfl
@[simp,go_sem] theorem Kn.wLev_tm (K : Kn) (t : Nat) (v : Int) : (K.wLev t v).tm = K.tm:=rfl
@[simp,go_sem] theorem Kn.wLev_L (K : Kn) (t : Nat) (v : Int) : (K.wLev t v).L = K.L:=rfl
@[simp,go_sem] theorem Kn.wLev_sm (K : Kn) (t : Nat) (v : Int) : (K.wLev t v).sm = K.sm:=rfl
@[simp,go_sem] theorem Kn.wLev_ml (K : Kn) (t : Nat) (v : Int) : (K.wLev t v).ml = K.ml:=rfl
@[simp,go_sem] theorem Kn.wLev_ln (K : Kn) (t : Nat) (v : Int) : (K.wLev t v).ln = K.ln:=rfl
@[simp,go_sem] theorem Kn.wLev_reads (K : Kn) (t : Nat) (v : Int) : (K.wLev t v).reads = K.reads:=rfl
@[simp,go_sem] theorem Kn.wLev_stopped (K : Kn) (t : Nat) (v : Int) : (K.wLev t v).stopped = K.stopped:=rfl
@[simp,go_sem] theorem Kn.wOn_count (K : Kn) (t : Nat) (v : Int) : (K.wOn t v).count = K.count:=rfl
@[simp,go_sem] theorem Kn.wOn_cycle (K : Kn) (t : Nat) (v : Int) : (K.wOn t v).cycle = K.cycle:=rfl
@[simp,go_sem] theorem Kn.wOn_told (K : Kn) (t : Nat) (v : Int) : (K.wOn t v).told = K.told:=rfl
@[simp,go_sem] theorem Kn.wOn_S (K : Kn) (t : Nat) (v : Int) : (K.wOn t v).S = K.S:=rfl
@[simp,go_sem] theorem Kn.wOn_R (K : Kn) (t : Nat) (v : Int) : (K.wOn t v).R = K.R:=rfl
@[simp,go_sem] theorem Kn.wOn_run (K : Kn) (t : Nat) (v : Int) : (K.wOn t v).run = K.run:=rfl
@[simp,go_sem] theorem Kn.wOn_iat (K : Kn) (t : Nat) (v : Int) : (K.wOn t v).iat = K.iat:=rfl
@[simp,go_sem] theorem Kn.wOn_irg (K : Kn) (t : Nat) (v : Int) : (K.wOn t v).irg = K.irg:=rfl
@[simp,go_sem] theorem Kn.wOn_mems (K : Kn) (t : Nat) (v : Int) : (K.wOn t v).mems = K.mems:=rfl
@[simp,go_sem] theorem Kn.wOn_tm (K : Kn) (t : Nat) (v : Int) : (K.wOn t v).tm = K.tm:=rfl
@[simp,go_sem] theorem Kn.wOn_L (K : Kn) (t : Nat) (v : Int) : (K.wOn t v).L = K.L:=rfl
@[simp,go_sem] theorem Kn.wOn_sm (K : Kn) (t : Nat) (v : Int) : (K.wOn t v).sm = K.sm:=rfl
@[simp,go_sem] theorem Kn.wOn_ml (K : Kn) (t : Nat) (v : Int) : (K.wOn t v).ml = K.ml:=rfl
@[simp,go_sem] theorem Kn.wOn_ln (K : Kn) (t : Nat) (v : Int) : (K.wOn t v).ln = K.ln:=rfl
@[simp,go_sem] theorem Kn.wOn_reads (K : Kn) (t : Nat) (v : Int) : (K.wOn t v).reads = K.reads:=rfl
@[simp,go_sem] theorem Kn.wOn_stopped (K : Kn) (t : Nat) (v : Int) : (K.wOn t v).stopped = K.stopped:=rfl
@[simp,go_sem] theorem Kn.wOn_T_lev (K : Kn) (t : Nat) (v : Int) : ((K.wOn t v).T t).lev = (K.T t).lev:=by unfold Kn.wOn;rw [z8]
@[simp,go_sem] theorem Kn.wLate_count (K : Kn) (t : Nat) (v : Int) : (K.wLate t v).count = K.count:=rfl
@[simp,go_sem] theorem Kn.wLate_cycle (K : Kn) (t : Nat) (v : Int) : (K.wLate t v).cycle = K.cycle:=rfl
@[simp,go_sem] theorem Kn.wLate_told (K : Kn) (t : Nat) (v : Int) : (K.wLate t v).told = K.told:=rfl
@[simp,go_sem] theorem Kn.wLate_S (K : Kn) (t : Nat) (v : Int) : (K.wLate t v).S = K.S:=rfl
@[simp,go_sem] theorem Kn.wLate_R (K : Kn) (t : Nat) (v : Int) : (K.wLate t v).R = K.R:=rfl
@[simp,go_sem] theorem Kn.wLate_run (K : Kn) (t : Nat) (v : Int) : (K.wLate t v).run = K.run:=rfl
@[simp,go_sem] theorem Kn.wLate_iat (K : Kn) (t : Nat) (v : Int) : (K.wLate t v).iat = K.iat:=rfl
@[simp,go_sem] theorem Kn.wLate_irg (K : Kn) (t : Nat) (v : Int) : (K.wLate t v).irg = K.irg:=rfl
@[simp,go_sem] theorem Kn.wLate_mems (K : Kn) (t : Nat) (v : Int) : (K.wLate t v).mems = K.mems:=rfl
@[simp,go_sem] theorem Kn.wLate_tm (K : Kn) (t : Nat) (v : Int) : (K.wLate t v).tm = K.tm:=rfl
@[simp,go_sem] theorem Kn.wLate_L (K : Kn) (t : Nat) (v : Int) : (K.wLate t v).L = K.L:=rfl
@[simp,go_sem] theorem Kn.wLate_sm (K : Kn) (t : Nat) (v : Int) : (K.wLate t v).sm = K.sm:=rfl
@[simp,go_sem] theorem Kn.wLate_ml (K : Kn) (t : Nat) (v : Int) : (K.wLate t v).ml = K.ml:=rfl
@[simp,go_sem] theorem Kn.wLate_ln (K : Kn) (t : Nat) (v : Int) : (K.wLate t v).ln = K.ln:=rfl
@[simp,go_sem] theorem Kn.wLate_reads (K : Kn) (t : Nat) (v : Int) : (K.wLate t v).reads = K.reads:=rfl
@[simp,go_sem] theorem Kn.wLate_stopped (K : Kn) (t : Nat) (v : Int) : (K.wLate t v).stopped = K.stopped:=rfl
@[simp,go_sem] theorem Kn.wLate_T_late (K : Kn) (t : Nat) (v : Int) : ((K.wLate t v).T t).late = v:=by unfold Kn.wLate;rw [z8]
@[simp,go_sem] theorem Kn.wLate_T_job (K : Kn) (t : Nat) (v : Int) : ((K.wLate t v).T t).job = (K.T t).job:=by unfold Kn.wLate;rw [z8]
@[simp,go_sem] theorem Kn.wJob_count (K : Kn) (t : Nat) (v : Int) : (K.wJob t v).count = K.count:=rfl
@[simp,go_sem] theorem Kn.wJob_cycle (K : Kn) (t : Nat) (v : Int) : (K.wJob t v).cycle = K.cycle:=rfl
@[simp,go_sem] theorem Kn.wJob_told (K : Kn) (t : Nat) (v : Int) : (K.wJob t v).told = K.told:=rfl
@[simp,go_sem] theorem Kn.wJob_S (K : Kn) (t : Nat) (v : Int) : (K.wJob t v).S = K.S:=rfl
@[simp,go_sem] theorem Kn.wJob_R (K : Kn) (t : Nat) (v : Int) : (K.wJob t v).R = K.R:=rfl
@[simp,go_sem] theorem Kn.wJob_run (K : Kn) (t : Nat) (v : Int) : (K.wJob t v).run = K.run:=rfl
@[simp,go_sem] theorem Kn.wJob_iat (K : Kn) (t : Nat) (v : Int) : (K.wJob t v).iat = K.iat:=rfl
@[simp,go_sem] theorem Kn.wJob_irg (K : Kn) (t : Nat) (v : Int) : (K.wJob t v).irg = K.irg:=rfl
@[simp,go_sem] theorem Kn.wJob_mems (K : Kn) (t : Nat) (v : Int) : (K.wJob t v).mems = K.mems:=rfl
@[simp,go_sem] theorem Kn.wJob_tm (K : Kn) (t : Nat) (v : Int) : (K.wJob t v).tm = K.tm:=rfl
@[simp,go_sem] theorem Kn.wJob_L (K : Kn) (t : Nat) (v : Int) : (K.wJob t v).L = K.L:=rfl
@[simp,go_sem] theorem Kn.wJob_sm (K : Kn) (t : Nat) (v : Int) : (K.wJob t v).sm = K.sm:=rfl
@[simp,go_sem] theorem Kn.wJob_ml (K : Kn) (t : Nat) (v : Int) : (K.wJob t v).ml = K.ml:=rfl
@[simp,go_sem] theorem Kn.wJob_ln (K : Kn) (t : Nat) (v : Int) : (K.wJob t v).ln = K.ln:=rfl
@[simp,go_sem] theorem Kn.wJob_reads (K : Kn) (t : Nat) (v : Int) : (K.wJob t v).reads = K.reads:=rfl
@[simp,go_sem] theorem Kn.wJob_stopped (K : Kn) (t : Nat) (v : Int) : (K.wJob t v).stopped = K.stopped:=rfl
@[simp,go_sem] theorem Kn.wJob_T_st (K : Kn) (t : Nat) (v : Int) : ((K.wJob t v).T t).st = (K.T t).st:=by unfold Kn.wJob;rw [z8]
@[simp,go_sem] theorem Kn.wJob_T_lev (K : Kn) (t : Nat) (v : Int) : ((K.wJob t v).T t).lev = (K.T t).lev:=by unfold Kn.wJob;rw [z8]
@[simp,go_sem] theorem Kn.wJob_T_job (K : Kn) (t : Nat) (v : Int) : ((K.wJob t v).T t).job = v:=by unfold Kn.wJob;rw [z8]
@[simp,go_sem] theorem Kn.wAt_count (K : Kn) (t : Nat) (v : Int) : (K.wAt t v).count = K.count:=rfl
@[simp,go_sem] theorem Kn.wAt_cycle (K : Kn) (t : Nat) (v : Int) : (K.wAt t v).cycle = K.cycle:=rfl
@[simp,go_sem] theorem Kn.wAt_told (K : Kn) (t : Nat) (v : Int) : (K.wAt t v).told = K.told:=rfl
@[simp,go_sem] theorem Kn.wAt_S (K : Kn) (t : Nat) (v : Int) : (K.wAt t v).S = K.S:=rfl
@[simp,go_sem] theorem Kn.wAt_R (K : Kn) (t : Nat) (v : Int) : (K.wAt t v).R = K.R:=rfl
@[simp,go_sem] theorem Kn.wAt_run (K : Kn) (t : Nat) (v : Int) : (K.wAt t v).run = K.run:=rfl
@[simp,go_sem] theorem Kn.wAt_iat (K : Kn) (t : Nat) (v : Int) : (K.wAt t v).iat = K.iat:=rfl
@[simp,go_sem] theorem Kn.wAt_irg (K : Kn) (t : Nat) (v : Int) : (K.wAt t v).irg = K.irg:=rfl
@[simp,go_sem] theorem Kn.wAt_mems (K : Kn) (t : Nat) (v : Int) : (K.wAt t v).mems = K.mems:=rfl
@[simp,go_sem] theorem Kn.wAt_tm (K : Kn) (t : Nat) (v : Int) : (K.wAt t v).tm = K.tm:=rfl
@[simp,go_sem] theorem Kn.wAt_L (K : Kn) (t : Nat) (v : Int) : (K.wAt t v).L = K.L:=rfl
@[simp,go_sem] theorem Kn.wAt_sm (K : Kn) (t : Nat) (v : Int) : (K.wAt t v).sm = K.sm:=rfl
@[simp,go_sem] theorem Kn.wAt_ml (K : Kn) (t : Nat) (v : Int) : (K.wAt t v).ml = K.ml:=rfl
@[simp,go_sem] theorem Kn.wAt_ln (K : Kn) (t : Nat) (v : Int) : (K.wAt t v).ln = K.ln:=rfl
@[simp,go_sem] theorem Kn.wAt_reads (K : Kn) (t : Nat) (v : Int) : (K.wAt t v).reads = K.reads:=rfl
@[simp,go_sem] theorem Kn.wAt_stopped (K : Kn) (t : Nat) (v : Int) : (K.wAt t v).stopped = K.stopped:=rfl
@[simp,go_sem] theorem Kn.wReg_count (K : Kn) (t n : Nat) (v : Int) : (K.wReg t n v).count = K.count:=rfl
@[simp,go_sem] theorem Kn.wReg_cycle (K : Kn) (t n : Nat) (v : Int) : (K.wReg t n v).cycle = K.cycle:=rfl
@[simp,go_sem] theorem Kn.wReg_told (K : Kn) (t n : Nat) (v : Int) : (K.wReg t n v).told = K.told:=rfl
@[simp,go_sem] theorem Kn.wReg_S (K : Kn) (t n : Nat) (v : Int) : (K.wReg t n v).S = K.S:=rfl
@[simp,go_sem] theorem Kn.wReg_R (K : Kn) (t n : Nat) (v : Int) : (K.wReg t n v).R = K.R:=rfl
@[simp,go_sem] theorem Kn.wReg_run (K : Kn) (t n : Nat) (v : Int) : (K.wReg t n v).run = K.run:=rfl
@[simp,go_sem] theorem Kn.wReg_iat (K : Kn) (t n : Nat) (v : Int) : (K.wReg t n v).iat = K.iat:=rfl
@[simp,go_sem] theorem Kn.wReg_irg (K : Kn) (t n : Nat) (v : Int) : (K.wReg t n v).irg = K.irg:=rfl
@[simp,go_sem] theorem Kn.wReg_mems (K : Kn) (t n : Nat) (v : Int) : (K.wReg t n v).mems = K.mems:=rfl
@[simp,go_sem] theorem Kn.wReg_tm (K : Kn) (t n : Nat) (v : Int) : (K.wReg t n v).tm = K.tm:=rfl
@[simp,go_sem] theorem Kn.wReg_L (K : Kn) (t n : Nat) (v : Int) : (K.wReg t n v).L = K.L:=rfl
@[simp,go_sem] theorem Kn.wReg_sm (K : Kn) (t n : Nat) (v : Int) : (K.wReg t n v).sm = K.sm:=rfl
@[simp,go_sem] theorem Kn.wReg_ml (K : Kn) (t n : Nat) (v : Int) : (K.wReg t n v).ml = K.ml:=rfl
@[simp,go_sem] theorem Kn.wReg_ln (K : Kn) (t n : Nat) (v : Int) : (K.wReg t n v).ln = K.ln:=rfl
@[simp,go_sem] theorem Kn.wReg_reads (K : Kn) (t n : Nat) (v : Int) : (K.wReg t n v).reads = K.reads:=rfl
@[simp,go_sem] theorem Kn.wReg_stopped (K : Kn) (t n : Nat) (v : Int) : (K.wReg t n v).stopped = K.stopped:=rfl
@[simp,go_sem] theorem Kn.wReg_T_st (K : Kn) (t n : Nat) (v : Int) : ((K.wReg t n v).T t).st = (K.T t).st:=by unfold Kn.wReg;rw [z8]
@[simp,go_sem] theorem Kn.wReg_T_lev (K : Kn) (t n : Nat) (v : Int) : ((K.wReg t n v).T t).lev = (K.T t).lev:=by unfold Kn.wReg;rw [z8]
@[simp,go_sem] theorem Kn.wReg_T_on (K : Kn) (t n : Nat) (v : Int) : ((K.wReg t n v).T t).on = (K.T t).on:=by unfold Kn.wReg;rw [z8]
end Go.Proofs.YthcfimbidmogkaaGreatDoor
namespace Go.Proofs.YthcfimbidmogkaaGreatDoor
open Go.RowKit Go.Sx Go.Au
abbrev zjY (e : Ev) : List Value:=[.int .i64 e.k,.int .u64 e.cy,.int .u64 e.co,.int .u32 e.a,.int .u32 e.b,.int .u32 e.v]
instance zjV : Enc Ev 6 where
 enc e:=zjY e
 len _:=rfl
 one t:=by intro u hu;simp at hu;rcases hu with rfl | rfl | rfl | rfl | rfl | rfl <;> rfl
 dft:=ev0
 pos:=by decide
instance : z63 Tryz.prog 55 Ev 6 zjV 91 40 (.agg #[.int .i64 0,.int .u64 0,.int .u64 0,.int .u32 0,.int .u32 0,.int .u32 0]):=⟨⟨by kernel_rfl,by kernel_rfl,rfl⟩,by decide⟩
end Go.Proofs.YthcfimbidmogkaaGreatDoor
namespace Go.Proofs.YthcfimbidmogkaaGreatDoor
open Go.RowKit Go.Sx Go.Rq
structure Ra where
 n : Nat
 fr : List Int
 bk : List Int
 ah : List Int
 af : List Int
 lv : List Int
 cnt : Int
def raP (b o : Nat) (a : Ra) : HP :=
 pts b o [.int .u32 a.n] * (pts b (o + 1) (a.fr.map (Value.int .i8)) * (pts b (o + 33) (a.bk.map (Value.int .i8)) * (pts b (o + 65) (a.ah.map (Value.int .i8)) * (pts b (o + 129) (a.af.map (Value.int .i8)) * (pts b (o + 193) (a.lv.map (Value.int .i8)) * pts b (o + 257) [.int .i64 a.cnt])))))
def rdP (b o : Nat) (R : Nat → List Nat) : HP:=ex fun a : Ra=>pur (Rep R a.n a.fr a.bk a.ah a.af a.lv) * raP b o a
instance (priority:=500) {α : Type} (k i : Nat) (l : List α) (v : α) [h : Lt k l.length] : Lt k (l.set i v).length:=⟨by rw [List.length_set];exact h.lt⟩
instance (priority:=1300) (b o k : Nat) (l : List Int) [h : Lt k l.length] : zC (pts b o (l.map (Value.int .i8))) b (o + k) (.int .i8 (ag l k)):=zC.num .i8 b o k l
theorem z4s (t l : Int) (z : Bool) (hz : decide (0 ≤ t ∧ t < 64 ∧ 0 ≤ l ∧ l < 32) = z) (w : World) : Calls Tryz.prog 112 #[.int .i64 t,.int .i64 l] w fun e w'=>e = .returned (.bool z) ∧ w = w':=by
 subst hz
 go_enter Tryz.func112,Tryz.ntmps112
 go_wp2
 all_goals
  go_ret;exact ⟨zgn (by rw [Bool.eq_iff_iff];simp;try omega),rfl⟩
theorem z3S {w0 w : World} {F : HP} {b o : Nat} {R : Nat → List Nat} (hs : Sat w0 w (rdP b o R * F)) : ∃ a : Ra,Rep R a.n a.fr a.bk a.ah a.af a.lv ∧ Sat w0 w (raP b o a * F):=by
 obtain ⟨a,hs⟩:=hs.ex_out;obtain ⟨h1,h2⟩:=(hs.perm (zb _ _ _)).pur_out;exact ⟨a,h1,h2⟩
theorem zmu {w0 w : World} {F : HP} {b o : Nat} {R : Nat → List Nat} (a : Ra) (h : Rep R a.n a.fr a.bk a.ah a.af a.lv) (hs : Sat w0 w (raP b o a * F)) : Sat w0 w (rdP b o R * F) :=
 Sat.ex_in (f:=fun a : Ra=>pur (Rep R a.n a.fr a.bk a.ah a.af a.lv) * raP b o a) a ((Sat.pur_in h hs).perm (zb _ _ _).symm)
theorem z2S {w0 w : World} {F : HP} {b o : Nat} {R : Nat → List Nat} {n : Nat} {fr bk ah af lv : List Int} {cnt : Int} (hs : Sat w0 w (pts b o [.int .u32 n] * (pts b (o + 1) (fr.map (Value.int .i8)) * (pts b (o + 33) (bk.map (Value.int .i8)) * (pts b (o + 65) (ah.map (Value.int .i8)) * (pts b (o + 129) (af.map (Value.int .i8)) * (pts b (o + 193) (lv.map (Value.int .i8)) * (pts b (o + 257) [.int .i64 cnt] * F)))))))) (h : Rep R n fr bk ah af lv) : Sat w0 w (rdP b o R * F) :=
 zmu ⟨n,fr,bk,ah,af,lv,cnt⟩ h (hs.perm (by unfold raP;ac_rfl))
theorem z7w (b o : Nat) (R : Nat → List Nat) (t l : Nat) (w0 w : World) (F : HP) (hs : Sat w0 w (rdP b o R * F)) (ht : t < 64) (hl : l < 32) (hno : ∀ k,t ∉ R k) :
  Calls Tryz.prog 159 #[.pointer (some ⟨b,o,none⟩),.int .i64 t,.int .i64 l] w (zp w0 (.tuple #[]) (rdP b o (up R l (R l ++ [t])) * F)):=by
 obtain ⟨⟨n,fr,bk,ah,af,lv,cnt⟩,h,hs⟩:=z3S hs;have H:=hid h;have hb:=h.bit hl;have htop:=h.top;haveI : Lt l fr.length:=⟨by rw [h.lfr];exact hl⟩;haveI : Lt l bk.length:=⟨by rw [h.lbk];exact hl⟩;haveI : Lt t ah.length:=⟨by rw [h.lah];exact ht⟩;haveI : Lt t af.length:=⟨by rw [h.laf];exact ht⟩;haveI : Lt t lv.length:=⟨by rw [h.llv];exact ht⟩;have hs2 : Sat w0 w (pts b o [.int .u32 n] * (pts b (o + 1) (fr.map (Value.int .i8)) * (pts b (o + 33) (bk.map (Value.int .i8)) * (pts b (o + 65) (ah.map (Value.int .i8)) * (pts b (o + 129) (af.map (Value.int .i8)) * (pts b (o + 193) (lv.map (Value.int .i8)) * (pts b (o + 257) [.int .i64 cnt] * F))))))):=hs.perm (by unfold raP;ac_rfl);clear hs;have d1 : decide (l < 32) = true:=decide_eq_true hl;have d2 : decide (t < 64) = true:=decide_eq_true ht;have i1 : (l : Int) < 32:=by omega
 have i2 : (t : Int) < 64:=by omega
 have w8 : IntKind.i8.wrap (t : Int) = t:=by simp [IntKind.wrap,IntKind.signed,IntKind.bits];omega
 have hor:=hid (z2d n (2 ^ l) htop (z30 hl));have hpw : Hid ((2 : Int) ^ l % 4294967296 = ((2 ^ l : Nat) : Int)):=by
  have h2:=z30 hl;have h3 : ((2 ^ l : Nat) : Int) = (2 : Int) ^ l:=by rw [Int.natCast_pow];rfl
  have h5 : (0 : Int) ≤ 2 ^ l:=Int.pow_nonneg (by decide);unfold Hid;rw [← h3];exact Int.emod_eq_of_lt (by omega) (by omega)
 by_cases e : R l = []
 ·have b1:=zcA htop (hb.trans (decide_eq_false (Classical.not_not.2 e)));have hf:=hid (H.out.push ht hl hno (fr':=fr.set l t) (ah':=ah.set t (-1)) (af1:=af) (fun _=>⟨rfl,rfl,rfl⟩) (fun h=>absurd e h));have e:=hid e;clear h hb hs
  go_enter Tryz.func159,Tryz.ntmps159
  go_wp2_with fail;refine z9 (w0:=w0) ?_;intro wx hsx;go_still_tail 9,(by kernel_rfl);change wpList _ _ _ _ _ wx.drew;go_wp2_with fail
  go_end0
  rw [hpw.out,hor.out];exact ⟨rfl,z2S (cnt:=wrap64 (cnt + 1)) z3 hf.out⟩
 ·have b1:=zcC htop (hb.trans (decide_eq_true e));obtain ⟨m,hm,hm2⟩:=(z8r (-1) (R l)).resolve_left (fun h=>e h.1);have hm64:=h.rng hm;have hbk:=(h.hbk e).trans hm2;haveI : Lt m af.length:=⟨by rw [h.laf];exact hm64⟩;have d3 : decide (m < 64) = true:=decide_eq_true hm64;have i3 : (m : Int) < 64:=by omega
  have hf:=hid (H.out.push ht hl hno (fr':=fr) (ah':=ah.set t m) (af1:=af.set m t) (fun h=>absurd h e) (fun _=>⟨rfl,by rw [hm2],by rw [hm2];rfl⟩));have e:=hid e;clear h hb hs hm hm2
  go_enter Tryz.func159,Tryz.ntmps159
  go_wp2_with fail;refine z9 (w0:=w0) ?_;intro wx hsx;go_still_tail 12,(by kernel_rfl);change wpList _ _ _ _ _ wx.drew;go_wp2_with fail;refine z9 (w0:=w0) ?_;intro wx hsx;go_still_tail 11,(by kernel_rfl);change wpList _ _ _ _ _ wx.drew;go_wp2_with fail;refine z9 (w0:=w0) ?_;intro wx hsx;go_still_tail 9,(by kernel_rfl);change wpList _ _ _ _ _ wx.drew;go_wp2_with fail
  go_end0
  rw [hpw.out,hor.out];exact ⟨rfl,z2S (cnt:=wrap64 (cnt + 1)) z3 hf.out⟩
end Go.Proofs.YthcfimbidmogkaaGreatDoor
namespace Go.Proofs.YthcfimbidmogkaaGreatDoor
open Go.RowKit Go.Sx Go.Dl Go.Lk Go.Rq Go.Au
def z0F (f : Nat → HP) : Nat → HP
 | 0=>emp
 | n + 1=>z0F f n * f n
theorem z0G (f : Nat → HP) (n : Nat) : z0F f (n + 1) = z0F f n * f n:=rfl
theorem zS {f g : Nat → HP} : ∀ {n : Nat} (_ : ∀ i,i < n → f i = g i),z0F f n = z0F g n
 | 0,_=>rfl
 | n + 1,h=>by rw [z0G,z0G,zS (n:=n) fun i hi=>h i (by omega),h n (by omega)]
theorem z8M (f : Nat → HP) {i : Nat} : ∀ {n : Nat} (_ : i < n), ∃ R, ∀ P,z0F (upd f i P) n = P * R
 | 0,h=>absurd h (by omega)
 | n + 1,h=>by
  by_cases e : i = n
  ·subst e;refine ⟨z0F f i,fun P=>?_⟩;rw [z0G,zS (g:=f) fun j hj=>zL f P (by omega),zK];exact z0W _ _
  ·obtain ⟨R,hR⟩:=z8M f (i:=i) (n:=n) (by omega);refine ⟨R * f n,fun P=>?_⟩;rw [z0G,hR,zL f P (by omega)]
   ac_rfl
theorem z10 {α : Type} (f : Nat → α) (i : Nat) : upd f i (f i) = f:=by
 funext j;unfold upd;split
 ·rename_i h;rw [h]
 ·rfl
theorem z4m {α : Type} (G : Nat → α → HP) (f : Nat → α) {i n : Nat} (h : i < n) : ∃ R, ∀ x,z0F (fun j=>G j (upd f i x j)) n = G i x * R:=by
 obtain ⟨R,hR⟩:=z8M (fun j=>G j (f j)) h;refine ⟨R,fun x=>?_⟩;rw [← hR (G i x)];refine zS fun j _=>?_
 by_cases e : j = i
 ·subst e;rw [zK,zK]
 ·rw [zL _ _ e,zL _ _ e]
structure Hd where
 a : Option Addr
 b : Nat
 o : Nat
 cap : Nat
def Hd.ad (h : Hd) (n : Nat) : Option Addr:=if n = 0 then h.a else some ⟨h.b,h.o,none⟩
abbrev Hd.v (h : Hd) (n : Nat) : Value:=.slice (h.ad n) n h.cap
@[simp,go_sem] theorem Hd.v_eq (h : Hd) (n : Nat) : h.v n = .slice (h.ad n) n h.cap:=rfl
theorem Hd.ad_pos (h : Hd) {n : Nat} (p : 0 < n) : h.ad n = some ⟨h.b,h.o,none⟩:=if_neg (by omega)
instance za3 : Enc Ins 6 where
 enc i:=[.int .i64 i.op,.int .i64 i.a,.int .i64 i.b,.int .i64 i.c,.int .i64 i.d,.int .u32 i.k]
 len _:=rfl
 one t:=by intro u hu;simp at hu;rcases hu with rfl | rfl | rfl | rfl | rfl | rfl <;> rfl
 dft:=zmV
 pos:=by decide
structure Cx0 where
 ct : Hd
 cl : Hd
 cs : Hd
 cq : Hd
 cm : Hd
 tv : Nat → Hd
 lv : Nat → Hd
abbrev cfL (x : Cx0) (c : Cf) : List Value:=[x.ct.v c.ts.length,x.cl.v c.ls.length,.int .i64 c.mutexes,x.cs.v c.sems.length,x.cq.v c.queues.length,x.cm.v c.timers.length,.int .i64 c.table,.int .u32 c.mask,.int .u32 c.filter,.int .i64 c.charge,.int .u64 c.cycle,.int .u64 c.count]
abbrev tcL (h : Hd) (t : Tc) : List Value:=[.int .i64 t.lev,.int .i64 t.off,.int .i64 t.per,.int .i64 t.dl,.int .i64 t.mem,h.v t.code.length]
abbrev lcL (h : Hd) (l : Lc) : List Value:=[.int .i64 l.mem,h.v l.code.length]
def ctP (x : Cx0) (c : Cf) : HP:=z0F (fun t=>pts x.ct.b (x.ct.o + t * 6) (tcL (x.tv t) (tcg c t)) * pts (x.tv t).b (x.tv t).o (cellsOf (tcg c t).code)) c.ts.length
def clP (x : Cx0) (c : Cf) : HP:=z0F (fun t=>pts x.cl.b (x.cl.o + t * 2) (lcL (x.lv t) (lcg c t)) * pts (x.lv t).b (x.lv t).o (cellsOf (lcg c t).code)) c.ls.length
def cnP (h : Hd) (l : List Int) : HP:=pts h.b h.o (l.map (Value.int .i64))
def cfH (x : Cx0) (c : Cf) : HP:=ctP x c * (clP x c * (cnP x.cs c.sems * (cnP x.cq c.queues * cnP x.cm c.timers)))
def lnP (b : Nat) (l : Ln) : HP:=pts b 0 [.int .u32 l.all,.int .u32 l.pending,.int .u32 l.mask,.int .i64 l.active]
structure Sh where
 a : Option Addr
 n : Nat
 c : Nat
abbrev Sh.v (m : Sh) : Value:=.slice m.a m.n m.c
structure Fx where
 c : Cx0
 mm : Hd
 mv : Nat → Hd
 ta : Hd
 tv : Nat → Hd
 lk : Nat
 sa : Hd
 sb : Nat → Nat
 qa : Hd
 qb : Nat → Nat
 ln : Nat
def z1w (c : Cf) (n : Nat) : Nat:=(lcg c n).mem.toNat
def z1x (c : Cf) (t : Nat) : Nat:=(tcg c t).mem.toNat
abbrev tsL (s : Ts) : List Value:=[.int .i64 s.st,.int .i64 s.lev,.int .i64 s.on,.int .i64 s.late,.int .u32 s.job]
abbrev cxL (a : Int) (r : R8) (v : Value) : List Value:=.int .i64 a :: (r.cells ++ [v])
def zcp (x : Fx) (c : Cf) (t : Nat) (s : Ts × List Int) : HP:=pts x.ta.b (x.ta.o + t * 15) (tsL s.1) * (pts x.ta.b (x.ta.o + t * 15 + 5) (cxL s.1.at_ s.1.rg ((x.tv t).v (z1x c t))) * pts (x.tv t).b (x.tv t).o (s.2.map (Value.int .u32)))
def zbd (x : Fx) (c : Cf) (T : Nat → Ts × List Int) : HP:=z0F (fun t=>zcp x c t (T t)) c.ts.length
def zex (x : Fx) (c : Cf) (n : Nat) (m : List Int) : HP:=pts x.mm.b (x.mm.o + n) [(x.mv n).v (z1w c n)] * pts (x.mv n).b (x.mv n).o (m.map (Value.int .u32))
def zfR (x : Fx) (c : Cf) (M : Nat → List Int) : HP:=z0F (fun n=>zex x c n (M n)) c.ls.length
def zn2 (x : Fx) (n : Nat) (s : Int × List Int) : HP:=pts x.sa.b (x.sa.o + n) [.pointer (some ⟨x.sb n,0,none⟩)] * z3f (x.sb n) s.1 s.2
def ziv (x : Fx) (c : Cf) (M : Nat → Int × List Int) : HP:=z0F (fun n=>zn2 x n (M n)) c.sems.length
def zhP (x : Fx) (n : Nat) (q : Mq) : HP:=pts x.qa.b (x.qa.o + n) [.pointer (some ⟨x.qb n,0,none⟩)] * mqP (x.qb n) q
def zda (x : Fx) (c : Cf) (M : Nat → Mq) : HP:=z0F (fun n=>zhP x n (M n)) c.queues.length
def z6d (b : Nat) (l : List Ev) : HP:=ex fun v=>pts b 549 [v] * z7 v l
abbrev kcL (x : Fx) (c : Cf) (rd : Int) (st : Bool) : List Value:=[x.mm.v c.ls.length,x.ta.v c.ts.length,.pointer (some ⟨x.lk,0,none⟩),x.sa.v c.sems.length,x.qa.v c.queues.length,.pointer (some ⟨x.ln,0,none⟩),.int .u64 rd,.bool st]
def knP (b : Nat) (x : Fx) (c : Cf) (K : Kn) : HP :=
 pts b 0 [.int .u64 K.count,.int .u64 K.cycle] * (z21 b 2 K.S * (pts b 259 [.int .i64 c.table] * (rdP b 260 K.R *
 (pts b 518 (cfL x.c c) * (cfH x.c c *
 (pts b 530 [.int .i64 K.run] * ((ex fun v : Sh=>pts b 531 (cxL K.iat K.irg v.v)) *
 (pts b 541 (kcL x c K.reads K.stopped) * (z6d b K.told *
 (zfR x c K.mems * (zbd x c (fun t=>(K.T t,K.tm t)) *
 (lkP x.lk K.L * (ziv x c K.sm * (zda x c K.ml * lnP x.ln K.ln))))))))))))))
section
variable (b : Nat) (x : Fx) (c : Cf) (K : Kn)
theorem z6r : ∃ R, ∀ n m,knP b x c ((K.wCount n).wCycle m) = pts b 0 [.int .u64 n,.int .u64 m] * R:=⟨_,fun n m=>by unfold knP;dsimp only [Kn.wCount,Kn.wCycle]⟩
theorem zme : ∃ R, ∀ S,knP b x c (K.wS S) = z21 b 2 S * R:=⟨_,fun S=>by unfold knP;dsimp only [Kn.wS];exact z2u.eq⟩
theorem znp : ∃ R,knP b x c K = pts b 259 [.int .i64 c.table] * R:=⟨_,by unfold knP;exact z2u.eq⟩
theorem zkp : ∃ R, ∀ S,knP b x c (K.wR S) = rdP b 260 S * R:=⟨_,fun S=>by unfold knP;dsimp only [Kn.wR];exact z2u.eq⟩
theorem z1Y : ∃ R,knP b x c K = pts b 518 (cfL x.c c) * R:=⟨_,by unfold knP;exact z2u.eq⟩
theorem zfx : ∃ R,knP b x c K = cfH x.c c * R:=⟨_,by unfold knP;exact z2u.eq⟩
theorem zjf : ∃ R, ∀ S,knP b x c (K.wRun S) = pts b 530 [.int .i64 S] * R:=⟨_,fun S=>by unfold knP;dsimp only [Kn.wRun];exact z2u.eq⟩
theorem z0O : ∃ R, ∀ a r,knP b x c ((K.wIat a).wIrg r) = (ex fun v : Sh=>pts b 531 (cxL a r v.v)) * R:=⟨_,fun a r=>by unfold knP;dsimp only [Kn.wIat,Kn.wIrg];exact z2u.eq⟩
theorem z81 : ∃ R, ∀ n z,knP b x c ((K.wReads n).wStopped z) = pts b 541 (kcL x c n z) * R:=⟨_,fun n z=>by unfold knP;dsimp only [Kn.wReads,Kn.wStopped];exact z2u.eq⟩
theorem zku : ∃ R, ∀ S,knP b x c (K.wTold S) = z6d b S * R:=⟨_,fun S=>by unfold knP;dsimp only [Kn.wTold];exact z2u.eq⟩
theorem zkr : ∃ R, ∀ S,knP b x c (K.wMems S) = zfR x c S * R:=⟨_,fun S=>by unfold knP;dsimp only [Kn.wMems];exact z2u.eq⟩
theorem zhF : ∃ R, ∀ T m,knP b x c ((K.wT T).wTm m) = zbd x c (fun t=>(T t,m t)) * R:=⟨_,fun T m=>by unfold knP;dsimp only [Kn.wT,Kn.wTm];exact z2u.eq⟩
theorem zll : ∃ R, ∀ S,knP b x c (K.wL S) = lkP x.lk S * R:=⟨_,fun S=>by unfold knP;dsimp only [Kn.wL];exact z2u.eq⟩
theorem zks : ∃ R, ∀ S,knP b x c (K.wSm S) = ziv x c S * R:=⟨_,fun S=>by unfold knP;dsimp only [Kn.wSm];exact z2u.eq⟩
theorem zhE : ∃ R, ∀ S,knP b x c (K.wMl S) = zda x c S * R:=⟨_,fun S=>by unfold knP;dsimp only [Kn.wMl];exact z2u.eq⟩
theorem zaz : ∃ R, ∀ S,knP b x c (K.wLn S) = lnP x.ln S * R:=⟨_,fun S=>by unfold knP;dsimp only [Kn.wLn];exact z2u.eq⟩
variable {b x c K}
theorem z0P {t : Nat} (h : t < c.ts.length) : ∃ R, ∀ s m,knP b x c ((K.setT t s).wTm (upd K.tm t m)) = zcp x c t (s,m) * R:=by
 obtain ⟨R1,h1⟩:=zhF b x c K;obtain ⟨R2,h2⟩:=z4m (zcp x c) (fun t=>(K.T t,K.tm t)) h;refine ⟨R2 * R1,fun s m=>?_⟩;rw [← zb,← h2 (s,m)];have h3:=h1 (upd K.T t s) (upd K.tm t m);refine Eq.trans h3 ?_
 congr 1
 unfold zbd;refine zS fun j _=>?_
 by_cases e : j = t
 ·subst e;simp only [zK]
 ·simp only [zL _ _ e]
theorem zje {n : Nat} (h : n < c.ls.length) : ∃ R, ∀ m,knP b x c (K.wMems (upd K.mems n m)) = zex x c n m * R:=by
 obtain ⟨R1,h1⟩:=zkr b x c K;obtain ⟨R2,h2⟩:=z4m (zex x c) K.mems h;exact ⟨R2 * R1,fun m=>by rw [h1,← zb,← h2 m];rfl⟩
theorem zjg {n : Nat} (h : n < c.sems.length) : ∃ R, ∀ m,knP b x c (K.wSm (upd K.sm n m)) = zn2 x n m * R:=by
 obtain ⟨R1,h1⟩:=zks b x c K;obtain ⟨R2,h2⟩:=z4m (zn2 x) K.sm h;exact ⟨R2 * R1,fun m=>by rw [h1,← zb,← h2 m];rfl⟩
theorem zfy {n : Nat} (h : n < c.queues.length) : ∃ R, ∀ m,knP b x c (K.wMl (upd K.ml n m)) = zhP x n m * R:=by
 obtain ⟨R1,h1⟩:=zhE b x c K;obtain ⟨R2,h2⟩:=z4m (zhP x) K.ml h;exact ⟨R2 * R1,fun m=>by rw [h1,← zb,← h2 m];rfl⟩
theorem zkq {n : Nat} (h : n < c.ls.length) : ∃ R, ∀ a r m,knP b x c (((K.wIat a).wIrg r).wMems (upd K.mems n m)) = (ex fun v : Sh=>pts b 531 (cxL a r v.v)) * (zex x c n m * R):=by
 obtain ⟨R2,h2⟩:=z4m (zex x c) K.mems h;have h1 : ∃ R, ∀ a r S,knP b x c (((K.wIat a).wIrg r).wMems S) = (ex fun v : Sh=>pts b 531 (cxL a r v.v)) * (zfR x c S * R):=⟨_,fun a r S=>by unfold knP;dsimp only [Kn.wIat,Kn.wIrg,Kn.wMems];refine Eq.trans (z2u.eq (Q:=ex fun v : Sh=>pts b 531 (cxL a r v.v))) ?_;congr 1;exact z2u.eq⟩;obtain ⟨R1,h1⟩:=h1;exact ⟨R2 * R1,fun a r m=>by rw [h1,← zb (zex x c n m),← h2 m];rfl⟩
theorem z68 {t : Nat} (h : t < c.ts.length) : ∃ R,knP b x c K = pts x.c.ct.b (x.c.ct.o + t * 6) (tcL (x.c.tv t) (tcg c t)) * (pts (x.c.tv t).b (x.c.tv t).o (cellsOf (tcg c t).code) * R):=by
 obtain ⟨R1,h1⟩:=zfx b x c K;obtain ⟨R2,h2⟩:=z4m (fun t (_ : Unit)=>pts x.c.ct.b (x.c.ct.o + t * 6) (tcL (x.c.tv t) (tcg c t)) * pts (x.c.tv t).b (x.c.tv t).o (cellsOf (tcg c t).code)) (fun _=>()) h;refine ⟨R2 * ((clP x.c c * (cnP x.c.cs c.sems * (cnP x.c.cq c.queues * cnP x.c.cm c.timers))) * R1),?_⟩;have h3 : ctP x.c c = _:=h2 ();rw [h1];unfold cfH;rw [h3];ac_rfl
theorem zay {t : Nat} (h : t < c.ls.length) : ∃ R,knP b x c K = pts x.c.cl.b (x.c.cl.o + t * 2) (lcL (x.c.lv t) (lcg c t)) * (pts (x.c.lv t).b (x.c.lv t).o (cellsOf (lcg c t).code) * R):=by
 obtain ⟨R1,h1⟩:=zfx b x c K;obtain ⟨R2,h2⟩:=z4m (fun t (_ : Unit)=>pts x.c.cl.b (x.c.cl.o + t * 2) (lcL (x.c.lv t) (lcg c t)) * pts (x.c.lv t).b (x.c.lv t).o (cellsOf (lcg c t).code)) (fun _=>()) h;refine ⟨R2 * (ctP x.c c * ((cnP x.c.cs c.sems * (cnP x.c.cq c.queues * cnP x.c.cm c.timers))) * R1),?_⟩;have h3 : clP x.c c = _:=h2 ();rw [h1];unfold cfH;rw [h3];ac_rfl
theorem znn : ∃ R,knP b x c K = cnP x.c.cm c.timers * R:=by
 obtain ⟨R1,h1⟩:=zfx b x c K;exact ⟨_,by rw [h1];unfold cfH;exact z2u.eq⟩
end
end Go.Proofs.YthcfimbidmogkaaGreatDoor
namespace Go.Proofs.YthcfimbidmogkaaGreatDoor
open Go.RowKit Go.Sx
theorem zjM (z : Bool) (n : Int) (hn : (if z then (1 : Int) else 0) = n) (w : World) : Calls Tryz.prog 215 #[.bool z] w fun e w'=>e = .returned (.int .u32 n) ∧ w = w':=by
 subst hn
 cases z
 all_goals
  simp only [if_true,if_false,Bool.false_eq_true]
  go_enter Tryz.func215,Tryz.ntmps215
  go_wp2;go_ret;exact ⟨rfl,rfl⟩
def rkV (op b c : Int) : Int:=(z1T op b c).getD 0
def rkE (op b c : Int) : Int:=match z1T op b c with
 | none=>13
 | some _=>0
theorem zeK (op b c : Int) (hop : 3 ≤ op ∧ op ≤ 14) (hb : 0 ≤ b ∧ b < 4294967296) (hc : 0 ≤ c ∧ c < 4294967296) (v e : Int) (hv : rkV op b c = v) (he : rkE op b c = e) (w : World) :
  Calls Tryz.prog 174 #[.int .i64 op,.int .u32 b,.int .u32 c] w fun en w'=>en = .returned (.tuple #[.int .u32 v,.int .i64 e]) ∧ w = w':=by
 have Hv:=hid hv;have He:=hid he;obtain ⟨b,rfl⟩:=Int.eq_ofNat_of_zero_le hb.1;obtain ⟨c,rfl⟩:=Int.eq_ofNat_of_zero_le hc.1;have hb' : b < 4294967296:=by omega
 have hc' : c < 4294967296:=by omega
 have HF:=hid (fun z n hn w=>zjM z n hn w);clear hv he;have hcs : (op = 3 ∨ op = 4 ∨ op = 5) ∨ (op = 6 ∨ op = 7) ∨ (op = 8 ∨ op = 9 ∨ op = 10) ∨ (op = 11 ∨ op = 12) ∨ (op = 13 ∨ op = 14):=by omega
 have E1:=hid (bits_and_u32_nat b c hb' hc');have E2:=hid (z2d b c hb' hc');have E3:=hid (z66 b c hb' hc');have E4 : bits .and .u32 (c : Int) 31 = ((c % 32 : Nat) : Int):=by
  have:=bits_and_u32_nat c 31 hc' (by decide);rw [show ((31 : Nat) : Int) = 31 from rfl] at this;rw [this,show (31 : Nat) = 2 ^ 5 - 1 from rfl,Nat.and_two_pow_sub_one_eq_mod]
 clear hop hb hc
 rcases hcs with h | h | h | h | h
 ·clear E1 E2 E3 E4
  rcases h with rfl | rfl | rfl
  all_goals
   go_enter Tryz.func174,Tryz.ntmps174
   go_wp2_with fail;go_ret2;refine ⟨?_,rfl⟩;rw [← Hv.out,← He.out];simp [rkV,rkE,z1T]
 ·clear E1 E2 E3 E4
  by_cases h0 : c = 0
  ·subst h0
   rcases h with rfl | rfl
   all_goals
    go_enter Tryz.func174,Tryz.ntmps174
    go_wp2_with fail;go_ret2;refine ⟨?_,rfl⟩;rw [← Hv.out,← He.out];simp [rkV,rkE,z1T]
  ·have h1 : ((c : Int) == 0) = false:=by simp [h0]
   have h2 : (c : Int) ≠ 0:=by omega
   rcases h with rfl | rfl
   all_goals
    go_enter Tryz.func174,Tryz.ntmps174
    go_wp2_with fail;go_ret2;refine ⟨?_,rfl⟩;rw [← Hv.out,← He.out];simp [rkV,rkE,z1T,h0]
   have h3 : (b : Int) / (c : Int) ≤ b:=Int.ediv_le_self _ (by omega);have h4 : 0 ≤ (b : Int) / (c : Int):=Int.ediv_nonneg (by omega) (by omega);omega
 ·clear E4
  rcases h with rfl | rfl | rfl
  all_goals
   go_enter Tryz.func174,Tryz.ntmps174
   go_wp2_with fail;go_ret2;refine ⟨?_,rfl⟩;rw [← Hv.out,← He.out];simp [rkV,rkE,z1T,E1.out,E2.out,E3.out]
 ·clear E1 E2 E3
  rcases h with rfl | rfl
  all_goals
   go_enter Tryz.func174,Tryz.ntmps174
   go_wp2_with fail;go_ret2;refine ⟨?_,rfl⟩;rw [← Hv.out,← He.out];simp [rkV,rkE,z1T]
 ·clear E1 E2 E3 E4
  rcases h with rfl | rfl
  ·by_cases hlt : b < c
   ·have i1 : (b : Int) < (c : Int):=by omega
    go_enter Tryz.func174,Tryz.ntmps174
    go_wp2_with fail;refine (HF.out _ 1 (by simp [hlt]) _).mono ?_;rintro en w1 ⟨rfl,rfl⟩;go_wp2_with fail;go_ret2;refine ⟨?_,rfl⟩;rw [← Hv.out,← He.out];simp [rkV,rkE,z1T,hlt]
   ·have i1 : ¬ (b : Int) < (c : Int):=by omega
    go_enter Tryz.func174,Tryz.ntmps174
    go_wp2_with fail;refine (HF.out _ 0 (by simp [hlt]) _).mono ?_;rintro en w1 ⟨rfl,rfl⟩;go_wp2_with fail;go_ret2;refine ⟨?_,rfl⟩;rw [← Hv.out,← He.out];simp [rkV,rkE,z1T,hlt]
  ·by_cases hlt : b = c
   ·have i1 : ((b : Int) == (c : Int)) = true:=by simp [hlt]
    have Hlt:=hid hlt;clear hlt
    go_enter Tryz.func174,Tryz.ntmps174
    go_wp2_with fail;refine (HF.out _ 1 (by first | rfl | simp [Hlt.out]) _).mono ?_;rintro en w1 ⟨rfl,rfl⟩;go_wp2_with fail;go_ret2;refine ⟨?_,rfl⟩;rw [← Hv.out,← He.out];simp [rkV,rkE,z1T,Hlt.out]
   ·have i1 : ((b : Int) == (c : Int)) = false:=by simp;omega
    have Hlt:=hid hlt;clear hlt
    go_enter Tryz.func174,Tryz.ntmps174
    go_wp2_with fail;refine (HF.out _ 0 (by first | rfl | simp [Hlt.out]) _).mono ?_;rintro en w1 ⟨rfl,rfl⟩;go_wp2_with fail;go_ret2;refine ⟨?_,rfl⟩;rw [← Hv.out,← He.out];have h9 : ¬ (b : Int) = c:=by have:=Hlt.out;omega
    simp [rkV,rkE,z1T,h9]
end Go.Proofs.YthcfimbidmogkaaGreatDoor
namespace Go.Proofs.YthcfimbidmogkaaGreatDoor
open Go.RowKit Go.Sx Go.Dl Go.Lk Go.Rq Go.Au
theorem za {P Q R : HP} {b o : Nat} {v : Value} (e : P = Q * R) (h : zC Q b o v) : zC P b o v :=
 ⟨fun {w0 w F} hs=>h.cell (F:=R * F) (hs.perm (by rw [e];ac_rfl)),fun {w0 w F} hs=>h.free (F:=R * F) (hs.perm (by rw [e];ac_rfl))⟩
theorem z0e {P P' Q Q' R : HP} {b o : Nat} {v : Value} (e : P = Q * R) (e' : P' = Q' * R) (h : Upd Q b o v Q') : Upd P b o v P' :=
 ⟨fun {w0 w F} hs=>(h.upd (F:=R * F) (hs.perm (by rw [e];ac_rfl))).perm (by rw [e'];ac_rfl)⟩
theorem z1d {P Q R : HP} {b o : Nat} {v : Value} (e : P = R * Q) (h : zC Q b o v) : zC P b o v:=za (e.trans (z0W _ _)) h
theorem z2G {α : Type} {f : α → HP} {b o : Nat} {v : Value} (h : ∀ a,zC (f a) b o v) : zC (ex f) b o v :=
 ⟨fun {w0 w F} hs=>let ⟨a,hs⟩:=hs.ex_out; (h a).cell hs,fun {w0 w F} hs=>let ⟨a,hs⟩:=hs.ex_out; (h a).free hs⟩
theorem z3Y {α : Type} {f f' : α → HP} {b o : Nat} {v : Value} (h : ∀ a, ∃ a',Upd (f a) b o v (f' a')) : Upd (ex f) b o v (ex f') :=
 ⟨fun {w0 w F} hs=>let ⟨a,hs⟩:=hs.ex_out;let ⟨a',u⟩:=h a;Sat.ex_in a' (u.upd hs)⟩
theorem zg {b o : Nat} {xs : List Value} {j : Nat} {v : Value} (h : xs[j]? = some v) : zC (pts b o xs) b (o + j) v :=
 ⟨fun hs=>(z0z hs h).1,fun hs=>(z0z hs h).2⟩
theorem z0w {b o : Nat} {xs ys : List Value} {j : Nat} {v : Value} (h : j < xs.length) (e : ys = xs.set j v) : Upd (pts b o xs) b (o + j) v (pts b o ys) :=
 ⟨fun hs=>by subst e;exact hs.set h v⟩
theorem zgO {P P' Q Q' R : HP} {b o : Nat} {v : Value} (e : P = R * Q) (e' : P' = R * Q') (h : Upd Q b o v Q') : Upd P b o v P':=z0e (e.trans (z0W _ _)) (e'.trans (z0W _ _)) h
theorem z0c (b : Nat) (x : Fx) (c : Cf) (K : Kn) (t : Nat) : knP b x c ((K.setT t (K.T t)).wTm (upd K.tm t (K.tm t))) = knP b x c K:=by
 have e : (K.setT t (K.T t)).wTm (upd K.tm t (K.tm t)) = K:=by unfold Kn.setT Kn.wTm;simp only [z10]
 rw [e]
theorem z2n (b : Nat) (x : Fx) (c : Cf) (K : Kn) (t : Nat) (s : Ts) : knP b x c ((K.setT t s).wTm (upd K.tm t (K.tm t))) = knP b x c (K.setT t s):=by
 have e : (K.setT t s).wTm (upd K.tm t (K.tm t)) = K.setT t s:=by unfold Kn.setT Kn.wTm;simp only [z10]
 rw [e]
theorem z2C (b : Nat) (x : Fx) (c : Cf) (K : Kn) (t : Nat) : knP b x c (K.wSm (upd K.sm t (K.sm t))) = knP b x c K:=by rw [z10];rfl
theorem z0I (b : Nat) (x : Fx) (c : Cf) (K : Kn) (t : Nat) : knP b x c (K.wMl (upd K.ml t (K.ml t))) = knP b x c K:=by rw [z10];rfl
theorem zdb (b : Nat) (x : Fx) (c : Cf) (K : Kn) (t : Nat) : knP b x c (K.wMems (upd K.mems t (K.mems t))) = knP b x c K:=by rw [z10];rfl
theorem zeM {a : Int} {r : R8} {v : Value} {n : Nat} (h : n < 8) : (cxL a r v)[1 + n]? = some (.int .u32 (r.get n)):=by
 rw [Nat.add_comm,List.getElem?_cons_succ,List.getElem?_append_left (by simpa [R8.cells] using h)];exact r.cell h
theorem zeL {a : Int} {r : R8} {v : Value} {n : Nat} {u : Int} (h : n < 8) : cxL a (r.set n u) v = (cxL a r v).set (1 + n) (.int .u32 u):=by
 rw [Nat.add_comm,List.set_cons_succ,List.set_append_left _ _ (by simpa [R8.cells] using h),← r.cells_set h]
section
variable (b : Nat) (x : Fx) (c : Cf) (K : Kn)
instance (priority:=1300) : zC (knP b x c K) b 0 (.int .u64 K.count):=let ⟨R,h⟩:=z6r b x c K;za (h K.count K.cycle) inferInstance
instance (priority:=1300) : zC (knP b x c K) b 1 (.int .u64 K.cycle):=let ⟨R,h⟩:=z6r b x c K;za (h K.count K.cycle) inferInstance
instance (priority:=1300) (n : Int) : Upd (knP b x c K) b 0 (.int .u64 n) (knP b x c (K.wCount n)):=let ⟨R,h⟩:=z6r b x c K;z0e (h K.count K.cycle) (h n K.cycle) inferInstance
instance (priority:=1300) (n : Int) : Upd (knP b x c K) b 1 (.int .u64 n) (knP b x c (K.wCycle n)):=let ⟨R,h⟩:=z6r b x c K;z0e (h K.count K.cycle) (h K.count n) inferInstance
instance (priority:=1300) : zC (knP b x c K) b 259 (.int .i64 c.table):=let ⟨R,h⟩:=znp b x c K;za h inferInstance
instance (priority:=1300) : zC (knP b x c K) b 518 (x.c.ct.v c.ts.length):=let ⟨R,h⟩:=z1Y b x c K;za h inferInstance
instance (priority:=1300) : zC (knP b x c K) b 519 (x.c.cl.v c.ls.length):=let ⟨R,h⟩:=z1Y b x c K;za h inferInstance
instance (priority:=1300) : zC (knP b x c K) b 520 (.int .i64 c.mutexes):=let ⟨R,h⟩:=z1Y b x c K;za h inferInstance
instance (priority:=1300) : zC (knP b x c K) b 523 (x.c.cm.v c.timers.length):=let ⟨R,h⟩:=z1Y b x c K;za h inferInstance
instance (priority:=1300) : zC (knP b x c K) b 530 (.int .i64 K.run):=let ⟨R,h⟩:=zjf b x c K;za (h K.run) inferInstance
instance (priority:=1300) (n : Int) : Upd (knP b x c K) b 530 (.int .i64 n) (knP b x c (K.wRun n)):=let ⟨R,h⟩:=zjf b x c K;z0e (h K.run) (h n) inferInstance
instance (priority:=1300) : zC (knP b x c K) b 531 (.int .i64 K.iat):=let ⟨R,h⟩:=z0O b x c K;za (h K.iat K.irg) (z2G fun v=>zg (j:=0) rfl)
instance (priority:=1300) : zC (knP b x c K) b 532 (.int .u32 K.irg.r0):=let ⟨R,h⟩:=z0O b x c K;za (h K.iat K.irg) (z2G fun v=>zg (j:=1) rfl)
instance (priority:=1300) : zC (knP b x c K) b 533 (.int .u32 K.irg.r1):=let ⟨R,h⟩:=z0O b x c K;za (h K.iat K.irg) (z2G fun v=>zg (j:=2) rfl)
instance (priority:=1300) : zC (knP b x c K) b 534 (.int .u32 K.irg.r2):=let ⟨R,h⟩:=z0O b x c K;za (h K.iat K.irg) (z2G fun v=>zg (j:=3) rfl)
instance (priority:=1300) : zC (knP b x c K) b 535 (.int .u32 K.irg.r3):=let ⟨R,h⟩:=z0O b x c K;za (h K.iat K.irg) (z2G fun v=>zg (j:=4) rfl)
instance (priority:=1300) : zC (knP b x c K) b 536 (.int .u32 K.irg.r4):=let ⟨R,h⟩:=z0O b x c K;za (h K.iat K.irg) (z2G fun v=>zg (j:=5) rfl)
instance (priority:=1300) : zC (knP b x c K) b 537 (.int .u32 K.irg.r5):=let ⟨R,h⟩:=z0O b x c K;za (h K.iat K.irg) (z2G fun v=>zg (j:=6) rfl)
instance (priority:=1300) : zC (knP b x c K) b 538 (.int .u32 K.irg.r6):=let ⟨R,h⟩:=z0O b x c K;za (h K.iat K.irg) (z2G fun v=>zg (j:=7) rfl)
instance (priority:=1300) : zC (knP b x c K) b 539 (.int .u32 K.irg.r7):=let ⟨R,h⟩:=z0O b x c K;za (h K.iat K.irg) (z2G fun v=>zg (j:=8) rfl)
instance (priority:=1300) (n : Int) : Upd (knP b x c K) b 531 (.int .i64 n) (knP b x c (K.wIat n)):=let ⟨R,h⟩:=z0O b x c K;z0e (h K.iat K.irg) (h n K.irg) (z3Y fun v=>⟨v,z0w (j:=0) (by simp [R8.cells]) rfl⟩)
instance (priority:=1300) (n : Int) : Upd (knP b x c K) b 532 (.int .u32 n) (knP b x c (K.wIrg { K.irg with r0:=n })):=let ⟨R,h⟩:=z0O b x c K;z0e (h K.iat K.irg) (h K.iat { K.irg with r0:=n }) (z3Y fun v=>⟨v,z0w (j:=1) (by simp [R8.cells]) rfl⟩)
instance (priority:=1300) (n : Int) : Upd (knP b x c K) b 533 (.int .u32 n) (knP b x c (K.wIrg { K.irg with r1:=n })):=let ⟨R,h⟩:=z0O b x c K;z0e (h K.iat K.irg) (h K.iat { K.irg with r1:=n }) (z3Y fun v=>⟨v,z0w (j:=2) (by simp [R8.cells]) rfl⟩)
instance (priority:=1300) (n : Int) : Upd (knP b x c K) b 534 (.int .u32 n) (knP b x c (K.wIrg { K.irg with r2:=n })):=let ⟨R,h⟩:=z0O b x c K;z0e (h K.iat K.irg) (h K.iat { K.irg with r2:=n }) (z3Y fun v=>⟨v,z0w (j:=3) (by simp [R8.cells]) rfl⟩)
instance (priority:=1300) (n : Int) : Upd (knP b x c K) b 535 (.int .u32 n) (knP b x c (K.wIrg { K.irg with r3:=n })):=let ⟨R,h⟩:=z0O b x c K;z0e (h K.iat K.irg) (h K.iat { K.irg with r3:=n }) (z3Y fun v=>⟨v,z0w (j:=4) (by simp [R8.cells]) rfl⟩)
instance (priority:=1300) (n : Int) : Upd (knP b x c K) b 536 (.int .u32 n) (knP b x c (K.wIrg { K.irg with r4:=n })):=let ⟨R,h⟩:=z0O b x c K;z0e (h K.iat K.irg) (h K.iat { K.irg with r4:=n }) (z3Y fun v=>⟨v,z0w (j:=5) (by simp [R8.cells]) rfl⟩)
instance (priority:=1300) (n : Int) : Upd (knP b x c K) b 537 (.int .u32 n) (knP b x c (K.wIrg { K.irg with r5:=n })):=let ⟨R,h⟩:=z0O b x c K;z0e (h K.iat K.irg) (h K.iat { K.irg with r5:=n }) (z3Y fun v=>⟨v,z0w (j:=6) (by simp [R8.cells]) rfl⟩)
instance (priority:=1300) (n : Int) : Upd (knP b x c K) b 538 (.int .u32 n) (knP b x c (K.wIrg { K.irg with r6:=n })):=let ⟨R,h⟩:=z0O b x c K;z0e (h K.iat K.irg) (h K.iat { K.irg with r6:=n }) (z3Y fun v=>⟨v,z0w (j:=7) (by simp [R8.cells]) rfl⟩)
instance (priority:=1300) (n : Int) : Upd (knP b x c K) b 539 (.int .u32 n) (knP b x c (K.wIrg { K.irg with r7:=n })):=let ⟨R,h⟩:=z0O b x c K;z0e (h K.iat K.irg) (h K.iat { K.irg with r7:=n }) (z3Y fun v=>⟨v,z0w (j:=8) (by simp [R8.cells]) rfl⟩)
instance (priority:=1300) (ua : Option Addr) (un uc : Nat) : Upd (knP b x c K) b 540 (.slice ua un uc) (knP b x c K):=let ⟨R,h⟩:=z0O b x c K;z0e (h K.iat K.irg) (h K.iat K.irg) (z3Y fun v=>⟨⟨ua,un,uc⟩,z0w (j:=9) (by simp [R8.cells]) rfl⟩)
instance (priority:=1300) : zC (knP b x c K) b 541 (x.mm.v c.ls.length):=let ⟨R,h⟩:=z81 b x c K;za (h K.reads K.stopped) inferInstance
instance (priority:=1300) : zC (knP b x c K) b 542 (x.ta.v c.ts.length):=let ⟨R,h⟩:=z81 b x c K;za (h K.reads K.stopped) inferInstance
instance (priority:=1300) : zC (knP b x c K) b 543 (.pointer (some ⟨x.lk,0,none⟩)):=let ⟨R,h⟩:=z81 b x c K;za (h K.reads K.stopped) inferInstance
instance (priority:=1300) : zC (knP b x c K) b 544 (x.sa.v c.sems.length):=let ⟨R,h⟩:=z81 b x c K;za (h K.reads K.stopped) inferInstance
instance (priority:=1300) : zC (knP b x c K) b 545 (x.qa.v c.queues.length):=let ⟨R,h⟩:=z81 b x c K;za (h K.reads K.stopped) inferInstance
instance (priority:=1300) : zC (knP b x c K) b 546 (.pointer (some ⟨x.ln,0,none⟩)):=let ⟨R,h⟩:=z81 b x c K;za (h K.reads K.stopped) inferInstance
instance (priority:=1300) : zC (knP b x c K) b 547 (.int .u64 K.reads):=let ⟨R,h⟩:=z81 b x c K;za (h K.reads K.stopped) inferInstance
instance (priority:=1300) : zC (knP b x c K) b 548 (.bool K.stopped):=let ⟨R,h⟩:=z81 b x c K;za (h K.reads K.stopped) inferInstance
instance (priority:=1300) (n : Int) : Upd (knP b x c K) b 547 (.int .u64 n) (knP b x c (K.wReads n)):=let ⟨R,h⟩:=z81 b x c K;z0e (h K.reads K.stopped) (h n K.stopped) inferInstance
instance (priority:=1300) (z : Bool) : Upd (knP b x c K) b 548 (.bool z) (knP b x c (K.wStopped z)):=let ⟨R,h⟩:=z81 b x c K;z0e (h K.reads K.stopped) (h K.reads z) inferInstance
end
section
variable (b : Nat) (x : Fx) (c : Cf) (K : Kn) (t : Nat)
instance (priority:=1300) [l : Lt t c.ts.length] : zC (knP b x c K) x.ta.b (x.ta.o + t * 15) (.int .i64 (K.T t).st):=let ⟨R,h⟩:=z0P (b:=b) (x:=x) (K:=K) l.lt;za (z0c b x c K t ▸ h (K.T t) (K.tm t)) (za rfl (zg (j:=0) rfl))
instance (priority:=1300) (n : Int) [l : Lt t c.ts.length] : Upd (knP b x c K) x.ta.b (x.ta.o + t * 15) (.int .i64 n) (knP b x c (K.wSt t n)):=let ⟨R,h⟩:=z0P (b:=b) (x:=x) (K:=K) l.lt;z0e (z0c b x c K t ▸ h (K.T t) (K.tm t)) (z2n b x c K t _ ▸ h { K.T t with st:=n } (K.tm t)) (z0e rfl rfl (z0w (j:=0) (by simp) rfl))
instance (priority:=1300) [l : Lt t c.ts.length] : zC (knP b x c K) x.ta.b (x.ta.o + t * 15 + 1) (.int .i64 (K.T t).lev):=let ⟨R,h⟩:=z0P (b:=b) (x:=x) (K:=K) l.lt;za (z0c b x c K t ▸ h (K.T t) (K.tm t)) (za rfl (zg (j:=1) rfl))
instance (priority:=1300) (n : Int) [l : Lt t c.ts.length] : Upd (knP b x c K) x.ta.b (x.ta.o + t * 15 + 1) (.int .i64 n) (knP b x c (K.wLev t n)):=let ⟨R,h⟩:=z0P (b:=b) (x:=x) (K:=K) l.lt;z0e (z0c b x c K t ▸ h (K.T t) (K.tm t)) (z2n b x c K t _ ▸ h { K.T t with lev:=n } (K.tm t)) (z0e rfl rfl (z0w (j:=1) (by simp) rfl))
instance (priority:=1300) [l : Lt t c.ts.length] : zC (knP b x c K) x.ta.b (x.ta.o + t * 15 + 2) (.int .i64 (K.T t).on):=let ⟨R,h⟩:=z0P (b:=b) (x:=x) (K:=K) l.lt;za (z0c b x c K t ▸ h (K.T t) (K.tm t)) (za rfl (zg (j:=2) rfl))
instance (priority:=1300) (n : Int) [l : Lt t c.ts.length] : Upd (knP b x c K) x.ta.b (x.ta.o + t * 15 + 2) (.int .i64 n) (knP b x c (K.wOn t n)):=let ⟨R,h⟩:=z0P (b:=b) (x:=x) (K:=K) l.lt;z0e (z0c b x c K t ▸ h (K.T t) (K.tm t)) (z2n b x c K t _ ▸ h { K.T t with on:=n } (K.tm t)) (z0e rfl rfl (z0w (j:=2) (by simp) rfl))
instance (priority:=1300) [l : Lt t c.ts.length] : zC (knP b x c K) x.ta.b (x.ta.o + t * 15 + 3) (.int .i64 (K.T t).late):=let ⟨R,h⟩:=z0P (b:=b) (x:=x) (K:=K) l.lt;za (z0c b x c K t ▸ h (K.T t) (K.tm t)) (za rfl (zg (j:=3) rfl))
instance (priority:=1300) (n : Int) [l : Lt t c.ts.length] : Upd (knP b x c K) x.ta.b (x.ta.o + t * 15 + 3) (.int .i64 n) (knP b x c (K.wLate t n)):=let ⟨R,h⟩:=z0P (b:=b) (x:=x) (K:=K) l.lt;z0e (z0c b x c K t ▸ h (K.T t) (K.tm t)) (z2n b x c K t _ ▸ h { K.T t with late:=n } (K.tm t)) (z0e rfl rfl (z0w (j:=3) (by simp) rfl))
instance (priority:=1300) [l : Lt t c.ts.length] : zC (knP b x c K) x.ta.b (x.ta.o + t * 15 + 4) (.int .u32 (K.T t).job):=let ⟨R,h⟩:=z0P (b:=b) (x:=x) (K:=K) l.lt;za (z0c b x c K t ▸ h (K.T t) (K.tm t)) (za rfl (zg (j:=4) rfl))
instance (priority:=1300) (n : Int) [l : Lt t c.ts.length] : Upd (knP b x c K) x.ta.b (x.ta.o + t * 15 + 4) (.int .u32 n) (knP b x c (K.wJob t n)):=let ⟨R,h⟩:=z0P (b:=b) (x:=x) (K:=K) l.lt;z0e (z0c b x c K t ▸ h (K.T t) (K.tm t)) (z2n b x c K t _ ▸ h { K.T t with job:=n } (K.tm t)) (z0e rfl rfl (z0w (j:=4) (by simp) rfl))
instance (priority:=1300) [l : Lt t c.ts.length] : zC (knP b x c K) x.ta.b (x.ta.o + t * 15 + 5) (.int .i64 (K.T t).at_):=let ⟨R,h⟩:=z0P (b:=b) (x:=x) (K:=K) l.lt;za (z0c b x c K t ▸ h (K.T t) (K.tm t)) (z1d rfl (za rfl (zg (j:=0) rfl)))
instance (priority:=1300) (n : Int) [l : Lt t c.ts.length] : Upd (knP b x c K) x.ta.b (x.ta.o + t * 15 + 5) (.int .i64 n) (knP b x c (K.wAt t n)):=let ⟨R,h⟩:=z0P (b:=b) (x:=x) (K:=K) l.lt;z0e (z0c b x c K t ▸ h (K.T t) (K.tm t)) (z2n b x c K t _ ▸ h { K.T t with at_:=n } (K.tm t)) (zgO rfl rfl (z0e rfl rfl (z0w (j:=0) (by simp [R8.cells]) rfl)))
theorem zdl {n : Nat} (l : t < c.ts.length) (hn : n < 8) : zC (knP b x c K) x.ta.b (x.ta.o + t * 15 + 5 + (1 + n)) (.int .u32 ((K.T t).rg.get n)) :=
 let ⟨R,h⟩:=z0P (b:=b) (x:=x) (K:=K) l;za (z0c b x c K t ▸ h (K.T t) (K.tm t)) (z1d rfl (za rfl (zg (j:=1 + n) (zeM hn))))
theorem zgj {n : Nat} (v : Int) (l : t < c.ts.length) (hn : n < 8) : Upd (knP b x c K) x.ta.b (x.ta.o + t * 15 + 5 + (1 + n)) (.int .u32 v) (knP b x c (K.wReg t n v)) :=
 let ⟨R,h⟩:=z0P (b:=b) (x:=x) (K:=K) l;z0e (z0c b x c K t ▸ h (K.T t) (K.tm t)) (z2n b x c K t _ ▸ h { K.T t with rg:=(K.T t).rg.set n v } (K.tm t)) (zgO rfl rfl (z0e rfl rfl (z0w (j:=1 + n) (by simp [R8.cells];omega) (zeL hn))))
theorem zfe {n : Nat} (hn : n < 8) : zC (knP b x c K) b (531 + (1 + n)) (.int .u32 (K.irg.get n)) :=
 let ⟨R,h⟩:=z0O b x c K;za (h K.iat K.irg) (z2G fun v=>zg (j:=1 + n) (zeM hn))
theorem zht {n : Nat} (v : Int) (hn : n < 8) : Upd (knP b x c K) b (531 + (1 + n)) (.int .u32 v) (knP b x c (K.wIrg (K.irg.set n v))) :=
 let ⟨R,h⟩:=z0O b x c K;z0e (h K.iat K.irg) (h K.iat (K.irg.set n v)) (z3Y fun u=>⟨u,z0w (j:=1 + n) (by simp [R8.cells];omega) (zeL hn)⟩)
instance (priority:=1250) (n : Nat) [l : Lt t c.ts.length] [m : Lt n 8] : zC (knP b x c K) x.ta.b (x.ta.o + t * 15 + 5 + 1 + n) (.int .u32 ((K.T t).rg.get n)):=by
 have:=zdl b x c K t l.lt m.lt;rw [← Nat.add_assoc] at this;exact this
instance (priority:=1250) (n : Nat) (v : Int) [l : Lt t c.ts.length] [m : Lt n 8] : Upd (knP b x c K) x.ta.b (x.ta.o + t * 15 + 5 + 1 + n) (.int .u32 v) (knP b x c (K.wReg t n v)):=by
 have:=zgj b x c K t v l.lt m.lt;rw [← Nat.add_assoc] at this;exact this
class z4b (b : Nat) (x : Fx) (c : Cf) (cb co : Nat) (who : outParam Nat) : Prop where
 is : (who < 64 ∧ who < c.ts.length ∧ cb = x.ta.b ∧ co = x.ta.o + who * 15 + 5) ∨ (64 ≤ who ∧ who - 64 < c.ls.length ∧ cb = b ∧ co = 531)
variable (cb co who : Nat)
instance (priority:=1200) (n : Nat) [h : z4b b x c cb co who] [m : Lt n 8] : zC (knP b x c K) cb (co + 1 + n) (.int .u32 (K.reg who n)):=by
 unfold Kn.reg;rw [Nat.add_assoc]
 rcases h.is with ⟨h1,h2,rfl,rfl⟩ | ⟨h1,h2,rfl,rfl⟩
 ·rw [if_pos h1];exact zdl b x c K who h2 m.lt
 ·rw [if_neg (by omega)];exact zfe cb x c K m.lt
instance (priority:=1200) (n : Nat) (v : Int) [h : z4b b x c cb co who] [m : Lt n 8] : Upd (knP b x c K) cb (co + 1 + n) (.int .u32 v) (knP b x c (K.put who n v)):=by
 unfold Kn.put;rw [Nat.add_assoc]
 rcases h.is with ⟨h1,h2,rfl,rfl⟩ | ⟨h1,h2,rfl,rfl⟩
 ·rw [if_pos h1];exact zgj b x c K who v h2 m.lt
 ·rw [if_neg (by omega)];exact zht cb x c K v m.lt
instance (priority:=1300) [l : Lt t c.ts.length] : zC (knP b x c K) x.c.ct.b (x.c.ct.o + t * 6) (.int .i64 (tcg c t).lev):=let ⟨R,h⟩:=z68 (b:=b) (x:=x) (K:=K) l.lt;za h (zg (j:=0) rfl)
instance (priority:=1300) [l : Lt t c.ts.length] : zC (knP b x c K) x.c.ct.b (x.c.ct.o + t * 6 + 2) (.int .i64 (tcg c t).per):=let ⟨R,h⟩:=z68 (b:=b) (x:=x) (K:=K) l.lt;za h (zg (j:=2) rfl)
instance (priority:=1300) [l : Lt t c.ts.length] : zC (knP b x c K) x.c.ct.b (x.c.ct.o + t * 6 + 5) ((x.c.tv t).v (tcg c t).code.length):=let ⟨R,h⟩:=z68 (b:=b) (x:=x) (K:=K) l.lt;za h (zg (j:=5) rfl)
instance (priority:=1300) [l : Lt t c.ls.length] : zC (knP b x c K) x.c.cl.b (x.c.cl.o + t * 2) (.int .i64 (lcg c t).mem):=let ⟨R,h⟩:=zay (b:=b) (x:=x) (K:=K) l.lt;za h (zg (j:=0) rfl)
instance (priority:=1300) [l : Lt t c.ls.length] : zC (knP b x c K) x.c.cl.b (x.c.cl.o + t * 2 + 1) ((x.c.lv t).v (lcg c t).code.length):=let ⟨R,h⟩:=zay (b:=b) (x:=x) (K:=K) l.lt;za h (zg (j:=1) rfl)
theorem z3o {l : List Ins} {n : Nat} (h : n < l.length) (f : Nat) (hf : f < 6) {v : Value} (hv : (za3.enc (zM l n))[f]? = some v) : (cellsOf l)[n * 6 + f]? = some v:=by
 rw [z0Y h hf];exact hv
instance (priority:=1300) (n : Nat) [l : Lt t c.ts.length] [m : Lt n (tcg c t).code.length] : zC (knP b x c K) (x.c.tv t).b ((x.c.tv t).o + n * 6) (.int .i64 (zM (tcg c t).code n).op):=let ⟨R,h⟩:=z68 (b:=b) (x:=x) (K:=K) l.lt;z1d h (za rfl (by have:=zg (b:=(x.c.tv t).b) (o:=(x.c.tv t).o) (z3o m.lt 0 (by decide) rfl);rw [← Nat.add_assoc] at this;exact this))
instance (priority:=1300) (n : Nat) [l : Lt t c.ls.length] [m : Lt n (lcg c t).code.length] : zC (knP b x c K) (x.c.lv t).b ((x.c.lv t).o + n * 6) (.int .i64 (zM (lcg c t).code n).op):=let ⟨R,h⟩:=zay (b:=b) (x:=x) (K:=K) l.lt;z1d h (za rfl (by have:=zg (b:=(x.c.lv t).b) (o:=(x.c.lv t).o) (z3o m.lt 0 (by decide) rfl);rw [← Nat.add_assoc] at this;exact this))
instance (priority:=1300) (n : Nat) [l : Lt t c.ts.length] [m : Lt n (tcg c t).code.length] : zC (knP b x c K) (x.c.tv t).b ((x.c.tv t).o + n * 6 + 1) (.int .i64 (zM (tcg c t).code n).a):=let ⟨R,h⟩:=z68 (b:=b) (x:=x) (K:=K) l.lt;z1d h (za rfl (by have:=zg (b:=(x.c.tv t).b) (o:=(x.c.tv t).o) (z3o m.lt 1 (by decide) rfl);rw [← Nat.add_assoc] at this;exact this))
instance (priority:=1300) (n : Nat) [l : Lt t c.ls.length] [m : Lt n (lcg c t).code.length] : zC (knP b x c K) (x.c.lv t).b ((x.c.lv t).o + n * 6 + 1) (.int .i64 (zM (lcg c t).code n).a):=let ⟨R,h⟩:=zay (b:=b) (x:=x) (K:=K) l.lt;z1d h (za rfl (by have:=zg (b:=(x.c.lv t).b) (o:=(x.c.lv t).o) (z3o m.lt 1 (by decide) rfl);rw [← Nat.add_assoc] at this;exact this))
instance (priority:=1300) (n : Nat) [l : Lt t c.ts.length] [m : Lt n (tcg c t).code.length] : zC (knP b x c K) (x.c.tv t).b ((x.c.tv t).o + n * 6 + 2) (.int .i64 (zM (tcg c t).code n).b):=let ⟨R,h⟩:=z68 (b:=b) (x:=x) (K:=K) l.lt;z1d h (za rfl (by have:=zg (b:=(x.c.tv t).b) (o:=(x.c.tv t).o) (z3o m.lt 2 (by decide) rfl);rw [← Nat.add_assoc] at this;exact this))
instance (priority:=1300) (n : Nat) [l : Lt t c.ls.length] [m : Lt n (lcg c t).code.length] : zC (knP b x c K) (x.c.lv t).b ((x.c.lv t).o + n * 6 + 2) (.int .i64 (zM (lcg c t).code n).b):=let ⟨R,h⟩:=zay (b:=b) (x:=x) (K:=K) l.lt;z1d h (za rfl (by have:=zg (b:=(x.c.lv t).b) (o:=(x.c.lv t).o) (z3o m.lt 2 (by decide) rfl);rw [← Nat.add_assoc] at this;exact this))
instance (priority:=1300) (n : Nat) [l : Lt t c.ts.length] [m : Lt n (tcg c t).code.length] : zC (knP b x c K) (x.c.tv t).b ((x.c.tv t).o + n * 6 + 3) (.int .i64 (zM (tcg c t).code n).c):=let ⟨R,h⟩:=z68 (b:=b) (x:=x) (K:=K) l.lt;z1d h (za rfl (by have:=zg (b:=(x.c.tv t).b) (o:=(x.c.tv t).o) (z3o m.lt 3 (by decide) rfl);rw [← Nat.add_assoc] at this;exact this))
instance (priority:=1300) (n : Nat) [l : Lt t c.ls.length] [m : Lt n (lcg c t).code.length] : zC (knP b x c K) (x.c.lv t).b ((x.c.lv t).o + n * 6 + 3) (.int .i64 (zM (lcg c t).code n).c):=let ⟨R,h⟩:=zay (b:=b) (x:=x) (K:=K) l.lt;z1d h (za rfl (by have:=zg (b:=(x.c.lv t).b) (o:=(x.c.lv t).o) (z3o m.lt 3 (by decide) rfl);rw [← Nat.add_assoc] at this;exact this))
instance (priority:=1300) (n : Nat) [l : Lt t c.ts.length] [m : Lt n (tcg c t).code.length] : zC (knP b x c K) (x.c.tv t).b ((x.c.tv t).o + n * 6 + 4) (.int .i64 (zM (tcg c t).code n).d):=let ⟨R,h⟩:=z68 (b:=b) (x:=x) (K:=K) l.lt;z1d h (za rfl (by have:=zg (b:=(x.c.tv t).b) (o:=(x.c.tv t).o) (z3o m.lt 4 (by decide) rfl);rw [← Nat.add_assoc] at this;exact this))
instance (priority:=1300) (n : Nat) [l : Lt t c.ls.length] [m : Lt n (lcg c t).code.length] : zC (knP b x c K) (x.c.lv t).b ((x.c.lv t).o + n * 6 + 4) (.int .i64 (zM (lcg c t).code n).d):=let ⟨R,h⟩:=zay (b:=b) (x:=x) (K:=K) l.lt;z1d h (za rfl (by have:=zg (b:=(x.c.lv t).b) (o:=(x.c.lv t).o) (z3o m.lt 4 (by decide) rfl);rw [← Nat.add_assoc] at this;exact this))
instance (priority:=1300) (n : Nat) [l : Lt t c.ts.length] [m : Lt n (tcg c t).code.length] : zC (knP b x c K) (x.c.tv t).b ((x.c.tv t).o + n * 6 + 5) (.int .u32 (zM (tcg c t).code n).k):=let ⟨R,h⟩:=z68 (b:=b) (x:=x) (K:=K) l.lt;z1d h (za rfl (by have:=zg (b:=(x.c.tv t).b) (o:=(x.c.tv t).o) (z3o m.lt 5 (by decide) rfl);rw [← Nat.add_assoc] at this;exact this))
instance (priority:=1300) (n : Nat) [l : Lt t c.ls.length] [m : Lt n (lcg c t).code.length] : zC (knP b x c K) (x.c.lv t).b ((x.c.lv t).o + n * 6 + 5) (.int .u32 (zM (lcg c t).code n).k):=let ⟨R,h⟩:=zay (b:=b) (x:=x) (K:=K) l.lt;z1d h (za rfl (by have:=zg (b:=(x.c.lv t).b) (o:=(x.c.lv t).o) (z3o m.lt 5 (by decide) rfl);rw [← Nat.add_assoc] at this;exact this))
instance (priority:=1300) (n : Nat) [m : Lt n c.timers.length] : zC (knP b x c K) x.c.cm.b (x.c.cm.o + n) (.int .i64 (lg c.timers n)):=let ⟨R,h⟩:=znn (b:=b) (x:=x) (c:=c) (K:=K);za h (zg (getElem?_map_int .i64 m.lt))
instance (priority:=1300) (n : Nat) [m : Lt n c.sems.length] : zC (knP b x c K) x.sa.b (x.sa.o + n) (.pointer (some ⟨x.sb n,0,none⟩)):=let ⟨R,h⟩:=zjg (b:=b) (x:=x) (K:=K) m.lt;za (z2C b x c K n ▸ h (K.sm n)) (za rfl (zg (j:=0) rfl))
instance (priority:=1300) (n : Nat) [m : Lt n c.queues.length] : zC (knP b x c K) x.qa.b (x.qa.o + n) (.pointer (some ⟨x.qb n,0,none⟩)):=let ⟨R,h⟩:=zfy (b:=b) (x:=x) (K:=K) m.lt;za (z0I b x c K n ▸ h (K.ml n)) (za rfl (zg (j:=0) rfl))
instance (priority:=1300) (n : Nat) [m : Lt n c.ls.length] : zC (knP b x c K) x.mm.b (x.mm.o + n) ((x.mv n).v (z1w c n)):=let ⟨R,h⟩:=zje (b:=b) (x:=x) (K:=K) m.lt;za (zdb b x c K n ▸ h (K.mems n)) (za rfl (zg (j:=0) rfl))
end
end Go.Proofs.YthcfimbidmogkaaGreatDoor
namespace Go.Proofs.YthcfimbidmogkaaGreatDoor
open Go.RowKit Go.Sx Go.Lk
def z3v (b o : Nat) (h : Hd) (x : Cx) : HP:=pts b o (cxL x.at_ x.rg (h.v x.mem.length)) * pts h.b h.o (x.mem.map (Value.int .u32))
section
variable (b o : Nat) (h : Hd) (x : Cx)
instance (priority:=1300) : zC (z3v b o h x) b o (.int .i64 x.at_):=za rfl (by have:=zg (b:=b) (o:=o) (xs:=cxL x.at_ x.rg (h.v x.mem.length)) (j:=0) rfl;exact this)
instance (priority:=1300) (n : Int) : Upd (z3v b o h x) b o (.int .i64 n) (z3v b o h { x with at_:=n }):=z0e rfl rfl (by have:=z0w (b:=b) (o:=o) (xs:=cxL x.at_ x.rg (h.v x.mem.length)) (ys:=cxL n x.rg (h.v x.mem.length)) (j:=0) (by simp [R8.cells]) rfl;exact this)
instance (priority:=1250) (n : Nat) [m : Lt n 8] : zC (z3v b o h x) b (o + 1 + n) (.int .u32 (x.reg n)):=za rfl (by
 have:=zg (b:=b) (o:=o) (zeM (a:=x.at_) (r:=x.rg) (v:=h.v x.mem.length) m.lt);rw [← Nat.add_assoc] at this;exact this)
instance (priority:=1250) (n : Nat) (v : Int) [m : Lt n 8] : Upd (z3v b o h x) b (o + 1 + n) (.int .u32 v) (z3v b o h (x.put n v)):=z0e rfl rfl (by
 have:=z0w (b:=b) (o:=o) (xs:=cxL x.at_ x.rg (h.v x.mem.length)) (ys:=cxL x.at_ (x.rg.set n v) (h.v x.mem.length)) (j:=1 + n) (by simp [R8.cells];have:=m.lt;omega) (zeL m.lt);rw [← Nat.add_assoc] at this;exact this)
instance (priority:=1300) : zC (z3v b o h x) b (o + 9) (.slice (h.ad x.mem.length) x.mem.length h.cap):=za rfl (zg (j:=9) rfl)
instance (priority:=1300) (n : Nat) [m : Lt n x.mem.length] : zC (z3v b o h x) h.b (h.o + n) (.int .u32 (lg x.mem n)):=z1d rfl (zg (getElem?_map_int .u32 m.lt))
instance (priority:=1300) (n : Nat) (v : Int) [m : Lt n x.mem.length] : Upd (z3v b o h x) h.b (h.o + n) (.int .u32 v) (z3v b o h { x with mem:=x.mem.set n v }):=zgO (R:=pts b o (cxL x.at_ x.rg (h.v x.mem.length))) (Q':=pts h.b h.o ((x.mem.set n v).map (Value.int .u32))) rfl (by unfold z3v;simp only [List.length_set]) (z0w (by rw [List.length_map];exact m.lt) (by rw [List.map_set]))
end
@[simp,go_sem] theorem zlF (x : Cx) (n v : Int) : (x.put n v).at_ = x.at_:=rfl
@[simp,go_sem] theorem zli (x : Cx) (n v : Int) : (x.put n v).mem = x.mem:=rfl
structure CxR (x : Cx) : Prop where
 rg : ∀ n,zG (x.rg.get n)
 at_ : 0 ≤ x.at_ ∧ x.at_ ≤ 300
 mem : x.mem.length ≤ 256
theorem zjN (b o : Nat) (h : Hd) (x : Cx) (op : Int) (a b' c d k : Int) (hop : op = 15 ∨ op = 16) (ha : 0 ≤ a ∧ a < 8) (hb : 0 ≤ b' ∧ b' < 8) (hk : zG k) (hx : CxR x) (w0 w : World) (F : HP) (hs : Sat w0 w (z3v b o h x * F)) :
  Calls Tryz.prog 173 #[.pointer (some ⟨b,o,none⟩),z22 ⟨op,a,b',c,d,k⟩] w
   (zp w0 (.int .i64 (if (x.mem.length : Int) ≤ (x.reg b' + k) % 4294967296 then 12 else 0))
    (z3v b o h (if (x.mem.length : Int) ≤ (x.reg b' + k) % 4294967296 then x else if op = 15 then x.put a (lg x.mem ((x.reg b' + k) % 4294967296).toNat) else { x with mem:=x.mem.set ((x.reg b' + k) % 4294967296).toNat (x.reg a) }) * F)):=by
 obtain ⟨a,rfl⟩:=Int.eq_ofNat_of_zero_le ha.1;obtain ⟨b',rfl⟩:=Int.eq_ofNat_of_zero_le hb.1;haveI : Lt a 8:=⟨by omega⟩;haveI : Lt b' 8:=⟨by omega⟩;have d1 : decide (a < 8) = true:=decide_eq_true (by omega);have d2 : decide (b' < 8) = true:=decide_eq_true (by omega);have i1 : (a : Int) < 8:=ha.2;have i2 : (b' : Int) < 8:=hb.2;have hr:=hx.rg b';have hm:=hx.mem;have hr2 : 0 ≤ x.reg b' ∧ x.reg b' < 4294967296:=hr;generalize hAt : (x.reg b' + k) % 4294967296 = at_;have hat : 0 ≤ at_ ∧ at_ < 4294967296:=by rw [← hAt];exact ⟨Int.emod_nonneg _ (by decide),Int.emod_lt_of_pos _ (by decide)⟩
 obtain ⟨n,rfl⟩:=Int.eq_ofNat_of_zero_le hat.1;rw [Int.toNat_natCast];have hk0 : 0 ≤ k:=hk.1;have hk1 : k < 4294967296:=hk.2;clear hx hr ha hb hk
 by_cases hle : (x.mem.length : Int) ≤ (n : Int)
 ·rw [if_pos hle,if_pos hle]
  go_enter Tryz.func173,Tryz.ntmps173
  go_wp2_with fail;go_quiet (fail);go_wp2_with fail;go_ret;exact ⟨rfl,z3⟩
 ·rw [if_neg hle,if_neg hle];have hlt : n < x.mem.length:=by omega
  haveI : Lt n x.mem.length:=⟨hlt⟩;have hd:=h.ad_pos (show 0 < x.mem.length by omega);have d3 : decide (n < x.mem.length) = true:=decide_eq_true hlt;have i3 : (n : Int) < (x.mem.length : Int):=by omega
  rcases hop with rfl | rfl
  ·rw [if_pos rfl]
   go_enter Tryz.func173,Tryz.ntmps173
   go_wp2_with fail;go_quiet (fail);go_wp2_with fail;refine z9 (w0:=w0) ?_;intro wx hsx;go_still_tail 13,(by kernel_rfl);change wpList _ _ _ _ _ wx.drew;go_wp2_with fail;go_ret;exact ⟨rfl,z3⟩
  ·rw [if_neg (by decide)]
   go_enter Tryz.func173,Tryz.ntmps173
   go_wp2_with fail;go_quiet (fail);go_wp2_with fail;refine z9 (w0:=w0) ?_;intro wx hsx;go_still_tail 13,(by kernel_rfl);change wpList _ _ _ _ _ wx.drew;go_wp2_with fail;go_ret;exact ⟨rfl,z3⟩
theorem zcy {n : Int} (h : 0 ≤ n ∧ n ≤ 300) : wrap64 (n + 1) = n + 1:=IntWalk.wrap64_in _ ⟨by omega,by omega⟩
theorem zbr (b o : Nat) (h : Hd) (x : Cx) (op : Int) (a b' c d k : Int) (hop : op = 1 ∨ op = 2 ∨ op = 17 ∨ op = 18 ∨ op = 19 ∨ op = 20) (hf : z2K ⟨op,a,b',c,d,k⟩ = 0) (ha : 0 ≤ a ∧ a < 8) (hb : 0 ≤ b' ∧ b' < 8) (hk : zG k) (hx : CxR x) (w0 w : World) (F : HP) (hs : Sat w0 w (z3v b o h x * F)) :
  Calls Tryz.prog 127 #[.pointer (some ⟨b,o,none⟩),z22 ⟨op,a,b',c,d,k⟩] w (zp w0 (.int .i64 (doI ⟨op,a,b',c,d,k⟩ x).1) (z3v b o h (doI ⟨op,a,b',c,d,k⟩ x).2 * F)):=by
 have hF:=hid (fun wx Q h=>z72 ⟨op,a,b',c,d,k⟩ 0 hf w0 wx Q h);obtain ⟨a,rfl⟩:=Int.eq_ofNat_of_zero_le ha.1;obtain ⟨b',rfl⟩:=Int.eq_ofNat_of_zero_le hb.1;haveI : Lt a 8:=⟨by omega⟩;haveI : Lt b' 8:=⟨by omega⟩;have d1 : decide (a < 8) = true:=decide_eq_true (by omega);have d2 : decide (b' < 8) = true:=decide_eq_true (by omega);have i1 : (a : Int) < 8:=ha.2;have i2 : (b' : Int) < 8:=hb.2;have hwr:=hid (zcy hx.at_);have hk0 : 0 ≤ k:=hk.1;have hk1 : k < 4294967296:=hk.2;have hwk:=hid (IntWalk.wrap64_in k ⟨by omega,by omega⟩);clear hf ha hb hk hx
 rcases hop with rfl | rfl | rfl | rfl | rfl | rfl
 ·have hD : doI ⟨1,a,b',c,d,k⟩ x = (0,{ x.put a k with at_:=x.at_ + 1 }):=rfl;rw [hD];clear hD
  go_enter Tryz.func127,Tryz.ntmps127
  go_wp2_with fail;refine (hF.out _ _ z6).mono ?_;rintro en w1 ⟨rfl,hs1⟩;clear hs;go_wp2_with fail;refine z9 (w0:=w0) ?_;intro wx hsx;go_still_tail 8,(by kernel_rfl);change wpList _ _ _ _ _ wx.drew;go_wp2_with fail;go_ret
  try rw [hwr.out]
  exact ⟨rfl,z3⟩
 ·have hD : doI ⟨2,a,b',c,d,k⟩ x = (0,{ x.put a (x.reg b') with at_:=x.at_ + 1 }):=rfl;rw [hD];clear hD
  go_enter Tryz.func127,Tryz.ntmps127
  go_wp2_with fail;refine (hF.out _ _ z6).mono ?_;rintro en w1 ⟨rfl,hs1⟩;clear hs;go_wp2_with fail;refine z9 (w0:=w0) ?_;intro wx hsx;go_still_tail 13,(by kernel_rfl);change wpList _ _ _ _ _ wx.drew;go_wp2_with fail;go_ret
  try rw [hwr.out]
  exact ⟨rfl,z3⟩
 ·have hD : doI ⟨17,a,b',c,d,k⟩ x = (0,{ x with at_:=k }):=rfl;rw [hD];clear hD
  go_enter Tryz.func127,Tryz.ntmps127
  go_wp2_with fail;refine (hF.out _ _ z6).mono ?_;rintro en w1 ⟨rfl,hs1⟩;clear hs;go_wp2_with fail;go_quiet (fail);go_wp2_with fail;go_ret
  try rw [hwk.out]
  exact ⟨rfl,z3⟩
 ·by_cases h0 : x.reg a = 0
  ·have e0 : (x.reg (a : Int) == 0) = true:=by simp [h0]
   have hD : doI ⟨18,a,b',c,d,k⟩ x = (0,{ x with at_:=k }):=by unfold doI;simp [h0]
   rw [hD];clear h0 hD
   go_enter Tryz.func127,Tryz.ntmps127
   go_wp2_with fail;refine (hF.out _ _ z6).mono ?_;rintro en w1 ⟨rfl,hs1⟩;clear hs;go_wp2_with fail;go_quiet (fail);go_wp2_with fail;go_ret
   try rw [hwk.out]
   exact ⟨rfl,z3⟩
  ·have e0 : (x.reg (a : Int) == 0) = false:=by simp [h0]
   have hD : doI ⟨18,a,b',c,d,k⟩ x = (0,{ x with at_:=x.at_ + 1 }):=by unfold doI;simp [h0,Cx.on]
   rw [hD];clear h0 hD
   go_enter Tryz.func127,Tryz.ntmps127
   go_wp2_with fail;refine (hF.out _ _ z6).mono ?_;rintro en w1 ⟨rfl,hs1⟩;clear hs;go_wp2_with fail;go_quiet (fail);go_wp2_with fail;go_ret
   try rw [hwr.out]
   exact ⟨rfl,z3⟩
 ·by_cases h0 : x.reg a = 0
  ·have e0 : (x.reg (a : Int) == 0) = true:=by simp [h0]
   have hD : doI ⟨19,a,b',c,d,k⟩ x = (0,{ x with at_:=x.at_ + 1 }):=by unfold doI;simp [h0,Cx.on]
   rw [hD];clear h0 hD
   go_enter Tryz.func127,Tryz.ntmps127
   go_wp2_with fail;refine (hF.out _ _ z6).mono ?_;rintro en w1 ⟨rfl,hs1⟩;clear hs;go_wp2_with fail;go_quiet (fail);go_wp2_with fail;go_ret
   try rw [hwr.out]
   exact ⟨rfl,z3⟩
  ·have e0 : (x.reg (a : Int) == 0) = false:=by simp [h0]
   have hD : doI ⟨19,a,b',c,d,k⟩ x = (0,{ x with at_:=k }):=by unfold doI;simp [h0]
   rw [hD];clear h0 hD
   go_enter Tryz.func127,Tryz.ntmps127
   go_wp2_with fail;refine (hF.out _ _ z6).mono ?_;rintro en w1 ⟨rfl,hs1⟩;clear hs;go_wp2_with fail;go_quiet (fail);go_wp2_with fail;go_ret
   try rw [hwk.out]
   exact ⟨rfl,z3⟩
 ·have hD : doI ⟨20,a,b',c,d,k⟩ x = (0,{ x with at_:=x.at_ + 1 }):=rfl;rw [hD];clear hD
  go_enter Tryz.func127,Tryz.ntmps127
  go_wp2_with fail;refine (hF.out _ _ z6).mono ?_;rintro en w1 ⟨rfl,hs1⟩;clear hs;go_wp2_with fail;go_ret
  try rw [hwr.out]
  exact ⟨rfl,z3⟩
theorem zeI (b o : Nat) (h : Hd) (x : Cx) (op : Int) (a b' c d k : Int) (hop : op = 15 ∨ op = 16) (hf : z2K ⟨op,a,b',c,d,k⟩ = 0) (ha : 0 ≤ a ∧ a < 8) (hb : 0 ≤ b' ∧ b' < 8) (hk : zG k) (hx : CxR x) (w0 w : World) (F : HP) (hs : Sat w0 w (z3v b o h x * F)) :
  Calls Tryz.prog 127 #[.pointer (some ⟨b,o,none⟩),z22 ⟨op,a,b',c,d,k⟩] w (zp w0 (.int .i64 (doI ⟨op,a,b',c,d,k⟩ x).1) (z3v b o h (doI ⟨op,a,b',c,d,k⟩ x).2 * F)):=by
 have hF:=hid (fun wx Q h=>z72 ⟨op,a,b',c,d,k⟩ 0 hf w0 wx Q h);have hM:=hid (fun wx Q hs=>zjN b o h x op a b' c d k hop ha hb hk hx w0 wx Q hs);have hwr:=hid (zcy hx.at_);clear hf
 by_cases hle : (x.mem.length : Int) ≤ (x.reg b' + k) % 4294967296
 ·have hD : doI ⟨op,a,b',c,d,k⟩ x = (12,x):=by
   rcases hop with rfl | rfl <;> (unfold doI;simp;first | exact hle | rw [if_pos hle])
  rw [hD];rw [if_pos hle,if_pos hle] at hM;clear hD hle hx hk ha hb
  rcases hop with rfl | rfl
  all_goals
   go_enter Tryz.func127,Tryz.ntmps127
   go_wp2_with fail;refine (hF.out _ _ z6).mono ?_;rintro en w1 ⟨rfl,hs1⟩;clear hs;go_wp2_with fail;refine (hM.out _ _ own).mono ?_;rintro en w2 ⟨rfl,hs2⟩;clear hs1;go_wp2_with fail;go_ret;exact ⟨rfl,z3⟩
 ·rw [if_neg hle,if_neg hle] at hM;have hD : doI ⟨op,a,b',c,d,k⟩ x = (0,{ (if op = 15 then x.put a (lg x.mem ((x.reg b' + k) % 4294967296).toNat) else { x with mem:=x.mem.set ((x.reg b' + k) % 4294967296).toNat (x.reg a) }) with at_:=x.at_ + 1 }):=by
   rcases hop with rfl | rfl <;> (unfold doI;simp only [show ¬ (15 : Int) = 1 by decide,show ¬ (15 : Int) = 2 by decide,show ¬ (16 : Int) = 1 by decide,show ¬ (16 : Int) = 2 by decide,show ¬ (16 : Int) = 15 by decide,or_true,true_or,if_true,if_false];rw [if_neg hle];rfl)
  rw [hD];have hat : (if op = 15 then x.put a (lg x.mem ((x.reg b' + k) % 4294967296).toNat) else { x with mem:=x.mem.set ((x.reg b' + k) % 4294967296).toNat (x.reg a) }).at_ = x.at_:=by split <;> rfl
  generalize (if op = 15 then x.put a (lg x.mem ((x.reg b' + k) % 4294967296).toNat) else { x with mem:=x.mem.set ((x.reg b' + k) % 4294967296).toNat (x.reg a) }) = y at hM hat ⊢;rw [← hat] at hwr ⊢;clear hD hle hx hk ha hb hat
  rcases hop with rfl | rfl
  all_goals
   go_enter Tryz.func127,Tryz.ntmps127
   go_wp2_with fail;refine (hF.out _ _ z6).mono ?_;rintro en w1 ⟨rfl,hs1⟩;clear hs;go_wp2_with fail;refine (hM.out _ _ own).mono ?_;rintro en w2 ⟨rfl,hs2⟩;clear hs1;go_wp2_with fail;go_ret
   try rw [hwr.out]
   exact ⟨rfl,z3⟩
theorem zeJ (b o : Nat) (h : Hd) (x : Cx) (op : Int) (a b' c d k : Int) (hop : 3 ≤ op ∧ op ≤ 14) (hf : z2K ⟨op,a,b',c,d,k⟩ = 0) (ha : 0 ≤ a ∧ a < 8) (hb : 0 ≤ b' ∧ b' < 8) (hc : 0 ≤ c ∧ c < 8) (hx : CxR x) (w0 w : World) (F : HP) (hs : Sat w0 w (z3v b o h x * F)) :
  Calls Tryz.prog 127 #[.pointer (some ⟨b,o,none⟩),z22 ⟨op,a,b',c,d,k⟩] w (zp w0 (.int .i64 (doI ⟨op,a,b',c,d,k⟩ x).1) (z3v b o h (doI ⟨op,a,b',c,d,k⟩ x).2 * F)):=by
 have hF:=hid (fun wx Q h=>z72 ⟨op,a,b',c,d,k⟩ 0 hf w0 wx Q h);obtain ⟨a,rfl⟩:=Int.eq_ofNat_of_zero_le ha.1;obtain ⟨b',rfl⟩:=Int.eq_ofNat_of_zero_le hb.1;obtain ⟨c,rfl⟩:=Int.eq_ofNat_of_zero_le hc.1;haveI : Lt a 8:=⟨by omega⟩;haveI : Lt b' 8:=⟨by omega⟩;haveI : Lt c 8:=⟨by omega⟩;have d1 : decide (a < 8) = true:=decide_eq_true (by omega);have d2 : decide (b' < 8) = true:=decide_eq_true (by omega);have d3 : decide (c < 8) = true:=decide_eq_true (by omega);have i1 : (a : Int) < 8:=ha.2;have i2 : (b' : Int) < 8:=hb.2;have i3 : (c : Int) < 8:=hc.2;have hwr:=hid (zcy hx.at_);have hR:=hid (fun v e hv he wx=>zeK op (x.reg b') (x.reg c) hop (hx.rg b') (hx.rg c) v e hv he wx);have hop0 : 3 ≤ op:=hop.1;have hop1 : op ≤ 14:=hop.2;have hD : doI ⟨op,a,b',c,d,k⟩ x = match z1T op (x.reg b') (x.reg c) with
  | none=>(13,x)
  | some n=>(0,{ x.put a n with at_:=x.at_ + 1 }):=by
  unfold doI;simp only [show ¬ op = 1 by omega,show ¬ op = 2 by omega,show ¬ (op = 15 ∨ op = 16) by omega,show ¬ op = 17 by omega,show ¬ op = 18 by omega,show ¬ op = 19 by omega,show ¬ op = 20 by omega,if_false]
  rfl
 rw [hD];clear hD hf ha hb hc hx hop
 cases hr : z1T op (x.reg b') (x.reg c) with
 | none =>
  have hv : Hid (rkV op (x.reg b') (x.reg c) = 0):=by unfold Hid rkV;rw [hr];rfl
  have he : Hid (rkE op (x.reg b') (x.reg c) = 13):=by unfold Hid rkE;rw [hr]
  clear hr
  go_enter Tryz.func127,Tryz.ntmps127
  go_wp2_with fail;refine (hF.out _ _ z6).mono ?_;rintro en w1 ⟨rfl,hs1⟩;clear hs;go_wp2_with fail;refine z9 (w0:=w0) ?_;intro wx hsx;clear hs1;refine zj (fun w'=>Sat w0 w' (pts w.heap.size 0 [.int .i64 op,.int .i64 a,.int .i64 b',.int .i64 c,.int .i64 d,.int .u32 k] * (z3v b o h x * any))) [(0,true),(1,true),(2,true),(3,true),(4,true),(5,true),(6,true),(7,true),(8,true),(9,true),(10,true),(11,true),(12,true),(13,true),(14,true),(15,true),(16,false),(17,true),(18,true),(19,true),(20,true),(21,true)] (by kernel_rfl) (by kernel_rfl) (fun _ _ _ _ h=>h) zk ?_
  iterate 16 (refine zf (fun K hK=>?_);simp only [zqS,zqZ]; (first | (rw [if_pos (by rfl)];apply Exists.intro;refine ⟨fun w hSw=>?_,hK _ ?_⟩; (focus ((try dsimp only at hSw);go_simp;try with_reducible rfl))) | (rw [if_neg (ne_true_of_eq_false (by rfl))];refine hK _ ?_));clear hK K;simp only [Act.put,zqA,zqP,zqQ])
  refine ze (fun K hK=>?_);simp only [zqS,zqZ];rw [if_pos (by rfl)];go_wp2_with fail;refine (hR.out 0 13 hv.out he.out _).mono ?_;rintro en w2 ⟨rfl,rfl⟩;go_wp2_with fail;refine ⟨zk,?_⟩
  iterate 5 (refine zf (fun K hK=>?_);simp only [zqS,zqZ]; (first | (rw [if_pos (by rfl)];apply Exists.intro;refine ⟨fun w hSw=>?_,hK _ ?_⟩; (focus ((try dsimp only at hSw);go_simp;try with_reducible rfl))) | (rw [if_neg (ne_true_of_eq_false (by rfl))];refine hK _ ?_));clear hK K;simp only [Act.put,zqA,zqP,zqQ])
  refine zB ?_;go_wp2_with fail;go_ret;exact ⟨rfl,z3⟩
 | some n =>
  have hv : Hid (rkV op (x.reg b') (x.reg c) = n):=by unfold Hid rkV;rw [hr];rfl
  have he : Hid (rkE op (x.reg b') (x.reg c) = 0):=by unfold Hid rkE;rw [hr]
  clear hr
  go_enter Tryz.func127,Tryz.ntmps127
  go_wp2_with fail;refine (hF.out _ _ z6).mono ?_;rintro en w1 ⟨rfl,hs1⟩;clear hs;go_wp2_with fail;refine z9 (w0:=w0) ?_;intro wx hsx;clear hs1;refine zj (fun w'=>Sat w0 w' (pts w.heap.size 0 [.int .i64 op,.int .i64 a,.int .i64 b',.int .i64 c,.int .i64 d,.int .u32 k] * (z3v b o h x * any))) [(0,true),(1,true),(2,true),(3,true),(4,true),(5,true),(6,true),(7,true),(8,true),(9,true),(10,true),(11,true),(12,true),(13,true),(14,true),(15,true),(16,false),(17,true),(18,true),(19,true),(20,true),(21,true)] (by kernel_rfl) (by kernel_rfl) (fun _ _ _ _ h=>h) zk ?_
  iterate 16 (refine zf (fun K hK=>?_);simp only [zqS,zqZ]; (first | (rw [if_pos (by rfl)];apply Exists.intro;refine ⟨fun w hSw=>?_,hK _ ?_⟩; (focus ((try dsimp only at hSw);go_simp;try with_reducible rfl))) | (rw [if_neg (ne_true_of_eq_false (by rfl))];refine hK _ ?_));clear hK K;simp only [Act.put,zqA,zqP,zqQ])
  refine ze (fun K hK=>?_);simp only [zqS,zqZ];rw [if_pos (by rfl)];go_wp2_with fail;refine (hR.out n 0 hv.out he.out _).mono ?_;rintro en w2 ⟨rfl,rfl⟩;go_wp2_with fail;refine ⟨zk,?_⟩
  iterate 5 (refine zf (fun K hK=>?_);simp only [zqS,zqZ]; (first | (rw [if_pos (by rfl)];apply Exists.intro;refine ⟨fun w hSw=>?_,hK _ ?_⟩; (focus ((try dsimp only at hSw);go_simp;try with_reducible rfl))) | (rw [if_neg (ne_true_of_eq_false (by rfl))];refine hK _ ?_));clear hK K;simp only [Act.put,zqA,zqP,zqQ])
  refine zB ?_;go_wp2_with fail;refine z9 (w0:=w0) ?_;intro wx hsx;go_still_tail 7,(by kernel_rfl);change wpList _ _ _ _ _ wx.drew;go_wp2_with fail;go_ret
  try rw [hwr.out]
  exact ⟨rfl,z3⟩
theorem zjL (b o : Nat) (h : Hd) (x : Cx) (i : Ins) (hi : zI i) (hop : i.op ≤ 20) (hx : CxR x) (w0 w : World) (F : HP) (hs : Sat w0 w (z3v b o h x * F)) :
  Calls Tryz.prog 127 #[.pointer (some ⟨b,o,none⟩),z22 i] w (zp w0 (.int .i64 (doI i x).1) (z3v b o h (doI i x).2 * F)):=by
 obtain ⟨op,a,b',c,d,k⟩:=i;have h1:=hi.op;have h1 : 1 ≤ op ∧ op ≤ 38:=h1;have h2 : op ≤ 20:=hop;have hcs : (op = 1 ∨ op = 2 ∨ op = 17 ∨ op = 18 ∨ op = 19 ∨ op = 20) ∨ (op = 15 ∨ op = 16) ∨ (3 ≤ op ∧ op ≤ 14):=by omega
 rcases hcs with g | g | g
 ·exact zbr b o h x op a b' c d k g hi.form hi.a hi.b hi.k hx w0 w F hs
 ·exact zeI b o h x op a b' c d k g hi.form hi.a hi.b hi.k hx w0 w F hs
 ·exact zeJ b o h x op a b' c d k g hi.form hi.a hi.b hi.c hx w0 w F hs
end Go.Proofs.YthcfimbidmogkaaGreatDoor
namespace Go.Proofs.YthcfimbidmogkaaGreatDoor
open Go.RowKit Go.Sx Go.Rq
theorem z9p {l : Nat} (hl : l < 32) : (2 : Int) ^ l % 4294967296 = ((2 ^ l : Nat) : Int):=by
 have h2:=z30 hl;have h3 : ((2 ^ l : Nat) : Int) = (2 : Int) ^ l:=by rw [Int.natCast_pow];rfl
 have h5 : (0 : Int) ≤ 2 ^ l:=Int.pow_nonneg (by decide);rw [← h3];exact Int.emod_eq_of_lt (by omega) (by omega)
theorem zlT (n : Int) (h : -128 ≤ n ∧ n ≤ 127) : IntKind.i8.wrap n = n:=by simp [IntKind.wrap,IntKind.signed,IntKind.bits];omega
theorem z9s (b o : Nat) (R : Nat → List Nat) (t l : Nat) (u v : List Nat) (w0 w : World) (F : HP) (hs : Sat w0 w (rdP b o R * F)) (hr : R l = u ++ t :: v) :
  Calls Tryz.prog 222 #[.pointer (some ⟨b,o,none⟩),.int .i64 t] w (zp w0 (.tuple #[]) (rdP b o (up R l (u ++ v)) * F)):=by
 obtain ⟨⟨n,fr,bk,ah,af,lv,cnt⟩,h,hs⟩:=z3S hs;have H:=hid h;have hm : t ∈ R l:=by rw [hr];simp
 have ht:=h.rng hm;have hl:=h.out hm;have htop:=h.top;have hu : t ∉ u:=by
  have:=h.nd l;rw [hr,List.nodup_append] at this;exact fun e=>this.2.2 t e t (by simp) rfl
 have g1:=h.hlv hm;have g2:=h.hah hm;have g3:=h.haf hm;rw [hr,zkR hu] at g2;rw [hr,zg6 hu] at g3;haveI : Lt l fr.length:=⟨by rw [h.lfr];exact hl⟩;haveI : Lt l bk.length:=⟨by rw [h.lbk];exact hl⟩;haveI : Lt t ah.length:=⟨by rw [h.lah];exact ht⟩;haveI : Lt t af.length:=⟨by rw [h.laf];exact ht⟩;haveI : Lt t lv.length:=⟨by rw [h.llv];exact ht⟩;have hs2 : Sat w0 w (pts b o [.int .u32 n] * (pts b (o + 1) (fr.map (Value.int .i8)) * (pts b (o + 33) (bk.map (Value.int .i8)) * (pts b (o + 65) (ah.map (Value.int .i8)) * (pts b (o + 129) (af.map (Value.int .i8)) * (pts b (o + 193) (lv.map (Value.int .i8)) * (pts b (o + 257) [.int .i64 cnt] * F))))))):=hs.perm (by unfold raP;ac_rfl);have d1 : decide (l < 32) = true:=decide_eq_true hl;have d2 : decide (t < 64) = true:=decide_eq_true ht;have i1 : (l : Int) < 32:=by omega
 have i2 : (t : Int) < 64:=by omega
 have w1 : IntKind.i8.wrap (l : Int) = l:=zlT _ ⟨by omega,by omega⟩;have w2 : IntKind.i8.wrap ((l : Int) + 1 - 1) = l:=by rw [zlT _ ⟨by omega,by omega⟩];omega
 have hpw:=hid (z9p hl);have han:=hid (z1c n l htop hl);have hmem : ∀ x ∈ u ++ v,x < 64:=fun x hx=>h.rng (l:=l) (by rw [hr];rcases List.mem_append.1 hx with a | a <;> simp [a]);have haf:=h.laf;have hah:=h.lah;clear h hs hm hu
 rcases z8r (-1) u with ⟨e1,f1⟩ | ⟨m1,k1,f1⟩ <;> rcases zj9 v with ⟨e2,f2⟩ | ⟨m2,k2,f2⟩
 ·rw [f1] at g2;rw [f2] at g3;have hf:=hid (H.out.cut hr (fr':=fr.set l (-1)) (af':=af) (bk':=bk.set l (-1)) (ah':=ah) (n':=n &&& (4294967295 - 2 ^ l)) (fun _=>⟨by rw [f2],rfl⟩) (fun a=>absurd e1 a) (fun _=>⟨by rw [f1],rfl⟩) (fun a=>absurd e2 a) (fun _=>rfl) (fun a=>absurd ⟨e1,e2⟩ a));clear e1 f1 e2 f2 hr hmem
  go_enter Tryz.func222,Tryz.ntmps222
  go_wp2_with fail;go_quiet (fail);go_wp2_with fail;refine z9 (w0:=w0) ?_;intro wx hsx;go_still_tail 9,(by kernel_rfl);change wpList _ _ _ _ _ wx.drew;go_wp2_with fail
  go_end0
  rw [hpw.out,han.out];exact ⟨rfl,z2S (cnt:=wrap64 (cnt - 1)) z3 hf.out⟩
 ·have hm2:=hmem m2 (by simp [k2]);have i3 : (m2 : Int) < 64:=by omega
  have d3 : decide (m2 < 64) = true:=decide_eq_true hm2;haveI : Lt m2 ah.length:=⟨by rw [hah];exact hm2⟩;rw [f1] at g2;rw [f2] at g3;have hv : v ≠ []:=fun a=>by rw [a] at k2;cases k2
  have hf:=hid (H.out.cut hr (fr':=fr.set l m2) (af':=af) (bk':=bk) (ah':=ah.set m2 (-1)) (n':=n) (fun _=>⟨by rw [f2],rfl⟩) (fun a=>absurd e1 a) (fun a=>absurd a hv) (fun _=>⟨rfl,by rw [f2,f1];rfl⟩) (fun a=>absurd a.2 hv) (fun _=>rfl));clear e1 f1 f2 hr hmem hv k2
  go_enter Tryz.func222,Tryz.ntmps222
  go_wp2_with fail;go_quiet (fail);go_wp2_with fail
  go_end0
  exact ⟨rfl,z2S (cnt:=wrap64 (cnt - 1)) z3 hf.out⟩
 ·have hm1:=hmem m1 (by simp [k1]);have i3 : (m1 : Int) < 64:=by omega
  have d3 : decide (m1 < 64) = true:=decide_eq_true hm1;haveI : Lt m1 af.length:=⟨by rw [haf];exact hm1⟩;rw [f1] at g2;rw [f2] at g3;have hv : u ≠ []:=fun a=>by rw [a] at k1;cases k1
  have hf:=hid (H.out.cut hr (fr':=fr) (af':=af.set m1 (-1)) (bk':=bk.set l m1) (ah':=ah) (n':=n) (fun a=>absurd a hv) (fun _=>⟨rfl,by rw [f1,f2];rfl⟩) (fun _=>⟨by rw [f1],rfl⟩) (fun a=>absurd e2 a) (fun a=>absurd a.1 hv) (fun _=>rfl));clear e2 f1 f2 hr hmem hv k1
  go_enter Tryz.func222,Tryz.ntmps222
  go_wp2_with fail;go_quiet (fail);go_wp2_with fail
  go_end0
  exact ⟨rfl,z2S (cnt:=wrap64 (cnt - 1)) z3 hf.out⟩
 ·have hm1:=hmem m1 (by simp [k1]);have hm2:=hmem m2 (by simp [k2]);have i3 : (m1 : Int) < 64:=by omega
  have d3 : decide (m1 < 64) = true:=decide_eq_true hm1;have i4 : (m2 : Int) < 64:=by omega
  have d4 : decide (m2 < 64) = true:=decide_eq_true hm2;haveI : Lt m1 af.length:=⟨by rw [haf];exact hm1⟩;haveI : Lt m2 ah.length:=⟨by rw [hah];exact hm2⟩;rw [f1] at g2;rw [f2] at g3;have hv : u ≠ []:=fun a=>by rw [a] at k1;cases k1
  have hv2 : v ≠ []:=fun a=>by rw [a] at k2;cases k2
  have hf:=hid (H.out.cut hr (fr':=fr) (af':=af.set m1 m2) (bk':=bk) (ah':=ah.set m2 m1) (n':=n) (fun a=>absurd a hv) (fun _=>⟨rfl,by rw [f1,f2];rfl⟩) (fun a=>absurd a hv2) (fun _=>⟨rfl,by rw [f1,f2];rfl⟩) (fun a=>absurd a.1 hv) (fun _=>rfl));clear f1 f2 hr hmem hv k1 hv2 k2
  go_enter Tryz.func222,Tryz.ntmps222
  go_wp2_with fail;go_quiet (fail);go_wp2_with fail
  go_end0
  exact ⟨rfl,z2S (cnt:=wrap64 (cnt - 1)) z3 hf.out⟩
theorem z1J (b o : Nat) (R : Nat → List Nat) (t : Nat) (z : Bool) (hz : (z1H R t).isSome = z) (w0 w : World) (F : HP) (hs : Sat w0 w (rdP b o R * F)) (ht : t < 64) :
  Calls Tryz.prog 158 #[.pointer (some ⟨b,o,none⟩),.int .i64 t] w (zp w0 (.bool z) (rdP b o R * F)):=by
 obtain ⟨⟨n,fr,bk,ah,af,lv,cnt⟩,h,hs⟩:=z3S hs;have H:=hid h;haveI : Lt t lv.length:=⟨by rw [h.llv];exact ht⟩;have hs2 : Sat w0 w (pts b o [.int .u32 n] * (pts b (o + 1) (fr.map (Value.int .i8)) * (pts b (o + 33) (bk.map (Value.int .i8)) * (pts b (o + 65) (ah.map (Value.int .i8)) * (pts b (o + 129) (af.map (Value.int .i8)) * (pts b (o + 193) (lv.map (Value.int .i8)) * (pts b (o + 257) [.int .i64 cnt] * F))))))):=hs.perm (by unfold raP;ac_rfl);have d2 : decide (t < 64) = true:=decide_eq_true ht;have i2 : (t : Int) < 64:=by omega
 have hl:=zfM h ht;subst hz
 cases e : z1H R t with
 | none =>
  rw [e] at hl;clear h hs e
  go_enter Tryz.func158,Tryz.ntmps158
  go_wp2_with fail;refine (z4s t 0 true (decide_eq_true ⟨by omega,by omega,by omega,by omega⟩) _).mono ?_;rintro en w1 ⟨rfl,rfl⟩;go_wp2_with fail;go_ret;exact ⟨rfl,z2S (cnt:=cnt) z3 H.out⟩
 | some l =>
  rw [e] at hl;have hl : ag lv t = (l : Int) + 1:=hl;have i3 : decide ((0 : Int) < (l : Int) + 1) = true:=decide_eq_true (by omega);clear h hs e
  go_enter Tryz.func158,Tryz.ntmps158
  go_wp2_with fail;refine (z4s t 0 true (decide_eq_true ⟨by omega,by omega,by omega,by omega⟩) _).mono ?_;rintro en w1 ⟨rfl,rfl⟩;go_wp2_with fail;go_ret;exact ⟨rfl,z2S (cnt:=cnt) z3 H.out⟩
theorem zdi {w0 w : World} {F : HP} {b o : Nat} {R : Nat → List Nat} (hs : Sat w0 w (rdP b o R * F)) : z4x R:=let ⟨a,h,_⟩:=z3S hs;h.ok
theorem zig (b o : Nat) (R : Nat → List Nat) (t l : Nat) (w0 w : World) (F : HP) (hs : Sat w0 w (rdP b o R * F)) (ht : t < 64) (hl : l < 32) :
  Calls Tryz.prog 115 #[.pointer (some ⟨b,o,none⟩),.int .i64 t,.int .i64 l] w (zp w0 (.int .i64 (if z1H R t = none then 0 else 1)) (rdP b o (z9N R t l) * F)):=by
 have hok:=zdi hs
 cases e : z1H R t with
 | none =>
  have e2 : z9N R t l = up R l (R l ++ [t]):=by unfold z9N;rw [if_pos ⟨e,ht,hl⟩]
  rw [e2];have hno:=z9k hok e;have hz : (z1H R t).isSome = false:=by rw [e];rfl
  clear e e2 hok
  go_enter Tryz.func115,Tryz.ntmps115
  go_wp2_with fail;refine (z4s t l true (decide_eq_true ⟨by omega,by omega,by omega,by omega⟩) _).mono ?_;rintro en w1 ⟨rfl,rfl⟩;go_wp2_with fail;refine (z1J b o R t false hz w0 _ _ own ht).mono ?_;rintro en w1 ⟨rfl,hs1⟩;clear hs;go_wp2_with fail;refine (z7w b o R t l w0 _ _ own ht hl hno).mono ?_;rintro en w2 ⟨rfl,hs2⟩;go_wp2_with fail;go_ret;exact ⟨rfl,hs2⟩
 | some k =>
  have e2 : z9N R t l = R:=by unfold z9N;rw [if_neg];rw [e];simp
  rw [e2];have hz : (z1H R t).isSome = true:=by rw [e];rfl
  clear e e2 hok
  go_enter Tryz.func115,Tryz.ntmps115
  go_wp2_with fail;refine (z4s t l true (decide_eq_true ⟨by omega,by omega,by omega,by omega⟩) _).mono ?_;rintro en w1 ⟨rfl,rfl⟩;go_wp2_with fail;refine (z1J b o R t true hz w0 _ _ own ht).mono ?_;rintro en w1 ⟨rfl,hs1⟩;clear hs;go_wp2_with fail;go_ret;exact ⟨rfl,hs1⟩
theorem z9r {R : Nat → List Nat} (h : z4x R) {t l : Nat} (e : z1H R t = some l) : ∃ u v,R l = u ++ t :: v ∧ (R l).erase t = u ++ v:=by
 have ht:=(z1a e).1;obtain ⟨u,v,e⟩:=List.append_of_mem ht;refine ⟨u,v,e,?_⟩;have hnd:=h.nd l;rw [e] at hnd ⊢;refine za4 fun hu=>?_;rw [List.nodup_append] at hnd;exact hnd.2.2 t hu t (by simp) rfl
theorem zcd (b o : Nat) (R : Nat → List Nat) (t : Nat) (w0 w : World) (F : HP) (hs : Sat w0 w (rdP b o R * F)) (ht : t < 64) :
  Calls Tryz.prog 180 #[.pointer (some ⟨b,o,none⟩),.int .i64 t] w (zp w0 (.bool (z1H R t).isSome) (rdP b o (z5F R t) * F)):=by
 have hok:=zdi hs
 cases e : z1H R t with
 | none =>
  rw [z7D e];have hz : (z1H R t).isSome = false:=by rw [e];rfl
  clear e hok
  go_enter Tryz.func180,Tryz.ntmps180
  go_wp2_with fail;refine (z1J b o R t false hz w0 _ _ own ht).mono ?_;rintro en w1 ⟨rfl,hs1⟩;go_wp2_with fail;go_ret;exact ⟨rfl,hs1⟩
 | some l =>
  obtain ⟨u,v,e1,e2⟩:=z9r hok e;rw [z7E e,e2];have hz : (z1H R t).isSome = true:=by rw [e];rfl
  clear e e2 hok
  go_enter Tryz.func180,Tryz.ntmps180
  go_wp2_with fail;refine (z1J b o R t true hz w0 _ _ own ht).mono ?_;rintro en w1 ⟨rfl,hs1⟩;clear hs;go_wp2_with fail;refine (z9s b o R t l u v w0 _ _ own e1).mono ?_;rintro en w2 ⟨rfl,hs2⟩;go_wp2_with fail;go_ret;exact ⟨rfl,hs2⟩
theorem z5E (b o : Nat) (R : Nat → List Nat) (t l : Nat) (e : z1H R t = some l) (w0 w : World) (F : HP) (hs : Sat w0 w (rdP b o R * F)) (ht : t < 64) :
  Calls Tryz.prog 229 #[.pointer (some ⟨b,o,none⟩),.int .i64 t] w (zp w0 (.int .i64 l) (rdP b o R * F)):=by
 have hz : (z1H R t).isSome = true:=by rw [e];rfl
 go_enter Tryz.func229,Tryz.ntmps229
 go_wp2_with fail;refine (z1J b o R t true hz w0 _ _ own ht).mono ?_;rintro en w1 ⟨rfl,hs1⟩;obtain ⟨⟨n,fr,bk,ah,af,lv,cnt⟩,h,hs⟩:=z3S hs1;have H:=hid h;haveI : Lt t lv.length:=⟨by rw [h.llv];exact ht⟩;have hs2 : Sat w0 w1 (pts b o [.int .u32 n] * (pts b (o + 1) (fr.map (Value.int .i8)) * (pts b (o + 33) (bk.map (Value.int .i8)) * (pts b (o + 65) (ah.map (Value.int .i8)) * (pts b (o + 129) (af.map (Value.int .i8)) * (pts b (o + 193) (lv.map (Value.int .i8)) * (pts b (o + 257) [.int .i64 cnt] * F))))))):=hs.perm (by unfold raP;ac_rfl);have d2 : decide (t < 64) = true:=decide_eq_true ht;have i2 : (t : Int) < 64:=by omega
 have hl:=zfM h ht;rw [e] at hl;have hl : ag lv t = (l : Int) + 1:=hl;have hl32:=(z1a e).2;have w3 : (l : Int) + 1 - 1 = l:=by omega
 clear h hs hs1 e hz;go_wp2_with fail;go_ret;exact ⟨rfl,z2S (cnt:=cnt) z3 H.out⟩
theorem znN (R : Nat → List Nat) (l : Nat) (p q : List Nat) : up (up R l p) l q = up R l q:=by
 funext k;unfold up;split <;> rfl
theorem zge (b o : Nat) (R : Nat → List Nat) (t : Nat) (w0 w : World) (F : HP) (hs : Sat w0 w (rdP b o R * F)) (ht : t < 64) :
  Calls Tryz.prog 189 #[.pointer (some ⟨b,o,none⟩),.int .i64 t] w (zp w0 (.bool (z1H R t).isSome) (rdP b o (z6e R t) * F)):=by
 have hok:=zdi hs
 cases e : z1H R t with
 | none =>
  rw [z5O e];have hz : (z1H R t).isSome = false:=by rw [e];rfl
  clear e hok
  go_enter Tryz.func189,Tryz.ntmps189
  go_wp2_with fail;refine (z1J b o R t false hz w0 _ _ own ht).mono ?_;rintro en w1 ⟨rfl,hs1⟩;go_wp2_with fail;go_ret;exact ⟨rfl,hs1⟩
 | some l =>
  obtain ⟨u,v,e1,e2⟩:=z9r hok e;have hl:=(z1a e).2;have hno : ∀ k,t ∉ up R l (u ++ v) k:=fun k=>by rw [← e2];exact z31 hok (z1a e).1 k
  have e3 : z6e R t = up (up R l (u ++ v)) l (up R l (u ++ v) l ++ [t]):=by rw [z5P e,znN,z0n,e2]
  rw [e3];have E:=hid e;have hz : (z1H R t).isSome = true:=by rw [e];rfl
  clear e e2 hok e3
  go_enter Tryz.func189,Tryz.ntmps189
  go_wp2_with fail;refine (z1J b o R t true hz w0 _ _ own ht).mono ?_;rintro en w1 ⟨rfl,hs1⟩;clear hs;go_wp2_with fail;refine (z5E b o R t l E.out w0 _ _ own ht).mono ?_;rintro en w2 ⟨rfl,hs2⟩;clear hs1;go_wp2_with fail;refine (z9s b o R t l u v w0 _ _ own e1).mono ?_;rintro en w3 ⟨rfl,hs3⟩;clear hs2;go_wp2_with fail;refine (z7w b o _ t l w0 _ _ own ht hl hno).mono ?_;rintro en w4 ⟨rfl,hs4⟩;go_wp2_with fail;go_ret;exact ⟨rfl,hs4⟩
theorem zgd (b o : Nat) (R : Nat → List Nat) (t k : Nat) (w0 w : World) (F : HP) (hs : Sat w0 w (rdP b o R * F)) (ht : t < 64) (hk : k < 32) :
  Calls Tryz.prog 225 #[.pointer (some ⟨b,o,none⟩),.int .i64 t,.int .i64 k] w (zp w0 (.bool (decide (z1H R t ≠ none ∧ z1H R t ≠ some k))) (rdP b o (z6b R t k) * F)):=by
 have hok:=zdi hs
 cases e : z1H R t with
 | none =>
  rw [z5w e];have hz : (z1H R t).isSome = false:=by rw [e];rfl
  clear e hok
  go_enter Tryz.func225,Tryz.ntmps225
  go_wp2_with fail;refine (z1J b o R t false hz w0 _ _ own ht).mono ?_;rintro en w1 ⟨rfl,hs1⟩;go_wp2_with fail;go_ret;exact ⟨by simp,hs1⟩
 | some l =>
  obtain ⟨u,v,e1,e2⟩:=z9r hok e;have hl:=(z1a e).2;have hno : ∀ k,t ∉ up R l (u ++ v) k:=fun k=>by rw [← e2];exact z31 hok (z1a e).1 k
  have hz : (z1H R t).isSome = true:=by rw [e];rfl
  by_cases hlk : l = k
  ·subst hlk;rw [z45 e,if_pos (.inl rfl)];have E:=hid e;clear e e2 hok
   go_enter Tryz.func225,Tryz.ntmps225
   go_wp2_with fail;refine (z1J b o R t true hz w0 _ _ own ht).mono ?_;rintro en w1 ⟨rfl,hs1⟩;clear hs;go_wp2_with fail;refine (z4s t l true (decide_eq_true ⟨by omega,by omega,by omega,by omega⟩) _).mono ?_;rintro en w2 ⟨rfl,rfl⟩;go_wp2_with fail;refine (z5E b o R t l E.out w0 _ _ own ht).mono ?_;rintro en w2 ⟨rfl,hs2⟩;clear hs1;go_wp2_with fail;go_ret;exact ⟨by simp,hs2⟩
  ·have e3 : z6b R t k = up (up R l (u ++ v)) k (up R l (u ++ v) k ++ [t]):=by rw [z45 e,if_neg (by omega),e2,z02 _ _ (Ne.symm hlk)]
   rw [e3];have E:=hid e;have hne : ((l : Int) == (k : Int)) = false:=by simp;omega
   clear e e2 hok e3
   go_enter Tryz.func225,Tryz.ntmps225
   go_wp2_with fail;refine (z1J b o R t true hz w0 _ _ own ht).mono ?_;rintro en w1 ⟨rfl,hs1⟩;clear hs;go_wp2_with fail;refine (z4s t k true (decide_eq_true ⟨by omega,by omega,by omega,by omega⟩) _).mono ?_;rintro en w2 ⟨rfl,rfl⟩;go_wp2_with fail;refine (z5E b o R t l E.out w0 _ _ own ht).mono ?_;rintro en w2 ⟨rfl,hs2⟩;clear hs1;go_wp2_with fail;refine (z9s b o R t l u v w0 _ _ own e1).mono ?_;rintro en w3 ⟨rfl,hs3⟩;clear hs2;go_wp2_with fail;refine (z7w b o _ t k w0 _ _ own ht hk hno).mono ?_;rintro en w4 ⟨rfl,hs4⟩;go_wp2_with fail;go_ret;exact ⟨by simp [hlk],hs4⟩
end Go.Proofs.YthcfimbidmogkaaGreatDoor
