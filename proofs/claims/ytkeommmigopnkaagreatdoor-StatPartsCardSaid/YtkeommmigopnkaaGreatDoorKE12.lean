/-
  Parts of the proof: RefJ.
-/
import Derived.Test.YtkeommmigopnkaaGreatDoorKE3
import Derived.Test.YtkeommmigopnkaaGreatDoorKE11
set_option linter.unusedVariables false
set_option linter.unusedSimpArgs false
set_option maxHeartbeats 32000000
set_option maxRecDepth 100000
namespace Go.Proofs.YtkeommmigopnkaaGreatDoor
open Go.RowKit Go.Sx
def rgOk (a b c d:Int):Prop:=(0≤a∧a≤7)∧(0≤b∧b≤7)∧(0≤c∧c≤7)∧(0≤d∧d≤2)
theorem formOk_range {i:Ins} (h:formOk i=true):rgOk i.a i.b i.c i.d:=by
 unfold formOk regOk at h;simp only [Bool.and_eq_true,decide_eq_true_eq] at h;unfold rgOk;omega
theorem or_ch (p q:Prop) {r:Prop} (h:r):(p∧¬ q)∨((p→q)∧r):=by
 by_cases h1:p<;>by_cases h2:q
 ·exact .inr ⟨fun _=>h2,h⟩
 ·exact .inl ⟨h1,h2⟩
 ·exact .inr ⟨fun _=>h2,h⟩
 ·exact .inr ⟨fun x=>absurd x h1,h⟩
theorem lt_no {x y:Int} (h:¬ x<y):decide (x<y)=false:=by simp;omega
theorem refForm_out (op a b c d k:Int) (hop:isOp op=true) (h:¬ rgOk a b c d) (w0 w:World) (P:HP) (hs:Sat w0 w P) :
  Calls Tryz.prog 96 #[insV ⟨op,a,b,c,d,k⟩] w (RetV w0 (.int .i64 5) P):=by
 have hH:=hid (fun w=>refHas op w);have hop2:=of_decide_eq_true hop;have o1:=@lt_no op 1 (by omega);have o2:=@lt_no 38 op (by omega);generalize hasS (usesOf op)=S at hH;clear hop hop2
 go_enter Tryz.func96,Tryz.ntmps96
 go_wp2_with fail;refine (hH.out _).mono ?_;rintro en w1 ⟨rfl,rfl⟩;go_wp2_with fail
 all_goals first | (go_ret;exact ⟨rfl,own_left⟩) | (exfalso;unfold rgOk at h;simp at *;omega)
theorem refForm_in (op a b c d k:Int) (hop:isOp op=true) (h:rgOk a b c d) (z:Int) (hz:formE ⟨op, a, b, c, d, k⟩=z) (w0 w:World) (P:HP) (hs:Sat w0 w P) :
    Calls Tryz.prog 96 #[insV ⟨op, a, b, c, d, k⟩] w (RetV w0 (.int .i64 z) P) := by
  have hH := hid (fun w => refHas op w);have hu := uses_cases op;obtain ⟨s0, sA, sB, sC, sD, sK⟩ := hasS_small _ hu;have hI := hid (fun c w => refIn (hasS (usesOf op)) s0 c w);have hop2 := of_decide_eq_true hop;have o1 := @lt_no op 1 (by omega);have o2 := @lt_no 38 op (by omega);obtain ⟨⟨a1, a2⟩, ⟨b1, b2⟩, ⟨c1, c2⟩, ⟨d1, d2⟩⟩ := h;have g1 := @lt_no a 0 (by omega);have g2 := @lt_no 7 a (by omega);have g3 := @lt_no b 0 (by omega);have g4 := @lt_no 7 b (by omega);have g5 := @lt_no c 0 (by omega);have g6 := @lt_no 7 c (by omega);have g7 := @lt_no d 0 (by omega);have g8 := @lt_no 2 d (by omega);have Hr := hid (show (0≤a∧a≤7)∧(0≤b∧b≤7)∧(0≤c∧c≤7)∧(0≤d∧d≤2) from ⟨⟨a1, a2⟩, ⟨b1, b2⟩, ⟨c1, c2⟩, ⟨d1, d2⟩⟩);unfold formE formOk regOk at hz;simp only [hop, not_true_eq_false, if_false] at hz;generalize hasS (usesOf op)=S at hH hI sA sB sC sD sK;generalize usesOf op=u at hu hz sA sB sC sD sK;have hA := hid (fun w => hI.out 65 w);have hB := hid (fun w => hI.out 66 w);have hC := hid (fun w => hI.out 67 w);have hD := hid (fun w => hI.out 68 w);have hK := hid (fun w => hI.out 75 w);rw [sA] at hA;rw [sB] at hB;rw [sC] at hC;rw [sD] at hD;rw [sK] at hK;have H0 := hid (or_ch (u.testBit 0=false) (a=0) trivial);have H1 := hid (or_ch (u.testBit 1=false) (b=0) trivial);have H2 := hid (or_ch (u.testBit 2=false) (c=0) trivial);have H3 := hid (or_ch (u.testBit 3=false) (d=0) trivial);have H4 := hid (or_ch (u.testBit 4=false) (k=0) trivial);have Hz := hid hz;clear hI sA sB sC sD sK s0 hop hop2 a1 a2 b1 b2 c1 c2 d1 d2 hz
  rcases hu with rfl | rfl | rfl | rfl | rfl | rfl | rfl | rfl | rfl | rfl | rfl
  all_goals
    go_enter Tryz.func96, Tryz.ntmps96
    go_wp2_with fail;refine (hH.out _).mono ?_;rintro en w1 ⟨rfl, rfl⟩;go_wp2_with fail;refine (hA.out _).mono ?_;rintro en w1 ⟨rfl, rfl⟩
    rcases H0.out with ⟨e, x⟩ | ⟨x1, -⟩
    · first
        | exact absurd e (by decide)
        | (have x0 := (bne_iff_ne ..).2 x
           clear x e;go_wp2_with fail;go_ret; refine ⟨?_, own_left⟩; rw [← Hz.out]; (try congr 2); have hr := Hr.out; first | rfl | (simp_all; done) | (simp_all; omega) | (simp; omega))
    (try (obtain rfl := x1 rfl)); (try clear x1)
    go_wp2_with fail;refine (hB.out _).mono ?_;rintro en w1 ⟨rfl, rfl⟩
    rcases H1.out with ⟨e, x⟩ | ⟨x1, -⟩
    · first
        | exact absurd e (by decide)
        | (have x0 := (bne_iff_ne ..).2 x
           clear x e;go_wp2_with fail;go_ret; refine ⟨?_, own_left⟩; rw [← Hz.out]; (try congr 2); have hr := Hr.out; first | rfl | (simp_all; done) | (simp_all; omega) | (simp; omega))
    (try (obtain rfl := x1 rfl)); (try clear x1)
    go_wp2_with fail;refine (hC.out _).mono ?_;rintro en w1 ⟨rfl, rfl⟩
    rcases H2.out with ⟨e, x⟩ | ⟨x1, -⟩
    · first
        | exact absurd e (by decide)
        | (have x0 := (bne_iff_ne ..).2 x
           clear x e;go_wp2_with fail;go_ret; refine ⟨?_, own_left⟩; rw [← Hz.out]; (try congr 2); have hr := Hr.out; first | rfl | (simp_all; done) | (simp_all; omega) | (simp; omega))
    (try (obtain rfl := x1 rfl)); (try clear x1)
    go_wp2_with fail;refine (hD.out _).mono ?_;rintro en w1 ⟨rfl, rfl⟩
    rcases H3.out with ⟨e, x⟩ | ⟨x1, -⟩
    · first
        | exact absurd e (by decide)
        | (have x0 := (bne_iff_ne ..).2 x
           clear x e;go_wp2_with fail;go_ret; refine ⟨?_, own_left⟩; rw [← Hz.out]; (try congr 2); have hr := Hr.out; first | rfl | (simp_all; done) | (simp_all; omega) | (simp; omega))
    (try (obtain rfl := x1 rfl)); (try clear x1)
    go_wp2_with fail;refine (hK.out _).mono ?_;rintro en w1 ⟨rfl, rfl⟩
    rcases H4.out with ⟨e, x⟩ | ⟨x1, -⟩
    · first
        | exact absurd e (by decide)
        | (have x0 := (bne_iff_ne ..).2 x
           clear x e;go_wp2_with fail;go_ret; refine ⟨?_, own_left⟩; rw [← Hz.out]; (try congr 2); have hr := Hr.out; first | rfl | (simp_all; done) | (simp_all; omega) | (simp; omega))
    (try (obtain rfl := x1 rfl)); (try clear x1)
    go_wp2_with fail;refine (hD.out _).mono ?_;rintro en w1 ⟨rfl, rfl⟩;go_wp2_with fail
    all_goals (go_ret; refine ⟨?_, own_left⟩; rw [← Hz.out]; (try congr 2); have hr := Hr.out; first | rfl | (simp_all; done) | (simp_all; omega) | (simp; omega))
theorem refForm (i:Ins) (z:Int) (hz:formE i=z) (w0 w:World) (P:HP) (hs:Sat w0 w P):Calls Tryz.prog 96 #[insV i] w (RetV w0 (.int .i64 z) P):=by
 obtain ⟨op,a,b,c,d,k⟩:=i
 cases hop:isOp op with
 | true =>
  by_cases h:rgOk a b c d
  ·exact refForm_in op a b c d k hop h z hz w0 w P hs
  ·have e:z=5:=by
    rw [← hz];unfold formE;rw [if_neg (by simp [hop]),if_neg fun hf=>h (formOk_range hf)]
   rw [e];exact refForm_out op a b c d k hop h w0 w P hs
 | false =>
  have Hz:=hid hz;have H:=hid hop;unfold isOp at hop;have ho:=of_decide_eq_false hop;clear hz hop
  go_enter Tryz.func96,Tryz.ntmps96
  go_wp2_with fail
  all_goals first | (go_ret;refine ⟨?_,own_left⟩;rw [← Hz.out];unfold formE;simp [H.out];done) | (exfalso;simp at *;omega)
end Go.Proofs.YtkeommmigopnkaaGreatDoor
