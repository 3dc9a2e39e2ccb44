/-
  What the mail laws share; the walk of MailNil.
-/
import Derived.Test.YtbnfkfbebnkdnaaMailD
import Derived.Test.YtbnfkfbebnkdnaaMailE
namespace Go.Proofs.Ytbnfkfbebnkdnaa
open Go.RowKit Go.Sx

theorem mailRecv_nil (lv : Value) (w : World) :
    Calls Try.prog 44 #[.pointer none, lv] w fun e w' => e = .returned (.tuple #[.int .u32 0, .int .i64 255, .int .i64 16]) ∧ w = w' := by
  go_enter Try.func44, Try.ntmps44
  go_wp2
  go_ret3
  exact ⟨rfl, rfl⟩

def q0 : Mq := ⟨List.replicate 64 0, 0, 0, 1, [], [], List.replicate 64 0⟩
def q1 : Mq := q0.send [] 5
def q2 : Mq := q1.send [] 6
def q3 : Mq := q2.hold 2 6
def q4 : Mq := q3.recv []
def q5 : Mq := q4.recv []
def q6 : Mq := q5.await 4
def q7 : Mq := q6.send [] 9

set_option maxHeartbeats 4000000 in
theorem mailAwake (w0 w : World) (F : HP) (hs : Sat w0 w F) :
    Calls Try.prog 41 #[] w (RetV w0 (.bool true) F) := by
  have hk0 : MqOk q0 := mqOk_new (by decide)
  have hk1 : MqOk q1 := mqOk_send hk0 _ _
  have hk2 : MqOk q2 := mqOk_send hk1 _ _
  have hk3 : MqOk q3 := mqOk_hold hk2 _ _
  have hk4 : MqOk q4 := mqOk_recv hk3 _
  have hk5 : MqOk q5 := mqOk_recv hk4 _
  have hk6 : MqOk q6 := mqOk_await hk5 _
  have hk7 : MqOk q7 := mqOk_send hk6 _ _
  have rn := fun w => rdN_nil .i64 w
  have st : ∀ F, Stays w0 F .i64 (.slice none 0 0) [] := fun F w _ => rdN_nil .i64 w
  go_enter Try.func41, Try.ntmps41
  go_wp2_with fail
  refine (mailNew_yes 1 1 rfl w0 _ _ hs (by decide)).mono ?_
  rintro e w1 ⟨rfl, hs⟩
  have hs : Sat w0 w1 (mqP w.heap.size q0 * F) := hs
  go_wp2_with fail
  refine (mailSend _ q0 5 _ [] w0 _ _ hs (rn _) hk0).mono ?_
  rintro e w2 ⟨rfl, hs⟩
  have hs : Sat w0 w2 (mqP w.heap.size q1 * F) := hs
  rw [show q0.sendT [] = 255 by decide +kernel]
  rw [show q0.sendE = 0 by decide +kernel]
  go_wp2_with fail
  refine (mailSend _ q1 6 _ [] w0 _ _ hs (rn _) hk1).mono ?_
  rintro e w3 ⟨rfl, hs⟩
  have hs : Sat w0 w3 (mqP w.heap.size q2 * F) := hs
  rw [show q1.sendT [] = 255 by decide +kernel]
  rw [show q1.sendE = 7 by decide +kernel]
  go_wp2_with fail
  refine (mailHold _ q2 2 6 w0 _ _ hs hk2).mono ?_
  rintro e w4 ⟨rfl, hs⟩
  have hs : Sat w0 w4 (mqP w.heap.size q3 * F) := hs
  rw [show q2.holdE 2 = 0 by decide +kernel]
  go_wp2_with fail
  refine (mailRecv _ q3 _ [] w0 _ _ hs (st _) hk3).mono ?_
  rintro e w5 ⟨rfl, hs⟩
  have hs : Sat w0 w5 (mqP w.heap.size q4 * F) := hs
  rw [show q3.recvV = 5 by decide +kernel]
  rw [show q3.recvT [] = 2 by decide +kernel]
  rw [show q3.recvE = 0 by decide +kernel]
  go_wp2_with fail
  refine (mailRecv _ q4 _ [] w0 _ _ hs (st _) hk4).mono ?_
  rintro e w6 ⟨rfl, hs⟩
  have hs : Sat w0 w6 (mqP w.heap.size q5 * F) := hs
  rw [show q4.recvV = 6 by decide +kernel]
  rw [show q4.recvT [] = 255 by decide +kernel]
  rw [show q4.recvE = 0 by decide +kernel]
  go_wp2_with fail
  refine (mailAwait _ q5 4 w0 _ _ hs hk5).mono ?_
  rintro e w7 ⟨rfl, hs⟩
  have hs : Sat w0 w7 (mqP w.heap.size q6 * F) := hs
  rw [show q5.awaitE 4 = 0 by decide +kernel]
  go_wp2_with fail
  refine (mailSend _ q6 9 _ [] w0 _ _ hs (rn _) hk6).mono ?_
  rintro e w8 ⟨rfl, hs⟩
  have hs : Sat w0 w8 (mqP w.heap.size q7 * F) := hs
  rw [show q6.sendT [] = 4 by decide +kernel]
  rw [show q6.sendE = 0 by decide +kernel]
  go_wp2_with fail
  refine (mailList _ q7 w0 _ _ hs hk7).mono ?_
  rintro e w9 ⟨v, rfl, hs9⟩
  have e7 : msgs q7 = [] := by decide +kernel
  rw [e7] at hs9
  obtain ⟨a, cap, rfl⟩ := hs9.slice_form
  go_wp2_with fail
  go_ret
  exact ⟨rfl, hs9.drop.drop⟩
end Go.Proofs.Ytbnfkfbebnkdnaa
