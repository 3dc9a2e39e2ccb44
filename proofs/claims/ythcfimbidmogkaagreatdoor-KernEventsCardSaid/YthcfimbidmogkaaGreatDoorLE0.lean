/-
  Parts of the proof: Law Rec LockO SameA.
-/
import Derived.Test.YthcfimbidmogkaaGreatDoorKB0
import Derived.Test.YthcfimbidmogkaaGreatDoorKB1
import Derived.Test.YthcfimbidmogkaaGreatDoorKB2
import Derived.Test.YthcfimbidmogkaaGreatDoorKB3
import Derived.Test.YthcfimbidmogkaaGreatDoorKB7
import Derived.Test.YthcfimbidmogkaaGreatDoorKB9
set_option linter.unusedVariables false
set_option linter.unusedSimpArgs false
set_option maxHeartbeats 32000000
set_option maxRecDepth 100000
namespace Go.Sx
open Go.RowKit
section
variable {P : Program} {w0 w : World} {F : HP} {v : Value} {n : Nat} {xs : List Value} {t e size bytes : Nat} {z : Value}
end
section
variable {w0 w : World} {F : HP} {κ : IntKind} {v : Value} {l : List Int}
end
def RdK (κs : List IntKind) (w : World) (v : Value) (n : Nat) (f : Nat → Nat → Int) : Prop :=
 ∃ a cap b off,v = .slice a n cap ∧ n ≤ cap ∧ cap ≤ maxLen ∧ (0 < n → a = some ⟨b,off,none⟩) ∧ ∀ i c κ,i < n → κs[c]? = some κ → w.cell? ⟨b,off + (i * κs.length + c),none⟩ = some (.int κ (f i c)) ∧ (Lit.int κ (f i c)).wf = true
section
variable {α : Type} {sz : Nat} [E : Enc α sz]
def zdw (b o : Nat) (l : List α) : HP:=pts b o (cellsOf l)
end
section
variable {α : Type} {sz : Nat} [E : Enc α sz]
theorem z6g {w0 w : World} {F : HP} {b o : Nat} {l : List α} (hs : Sat w0 w (zdw b o l * F)) {k c : Nat} {v : Value} (hk : k < l.length) (hv : (E.enc (l.getD k E.dft))[c]? = some v) :
  w.cell? ⟨b,o + k * sz + c,none⟩ = some v ∧ w.frozen? ⟨b,o + k * sz + c,none⟩ = false:=by
 have hc : c < sz:=by rw [← E.len (l.getD k E.dft)];exact (List.getElem?_eq_some_iff.1 hv).1
 rw [Nat.add_assoc];exact z0z hs (by rw [z0Y hk hc];exact hv)
instance (priority:=1200) zC.arr (b o k c : Nat) (l : List α) (v : Value) [h : Lt k l.length] [e : z1v (l.getD k E.dft) c v] : zC (zdw b o l) b (o + k * sz + c) v :=
 ⟨fun hs=>(z6g hs h.lt e.at_).1,fun hs=>(z6g hs h.lt e.at_).2⟩
instance (priority:=1210) zC.arr0 (b o k : Nat) (l : List α) (v : Value) [h : Lt k l.length] [e : z1v (l.getD k E.dft) 0 v] : zC (zdw b o l) b (o + k * sz) v :=
 ⟨fun hs=>(z6g hs h.lt e.at_).1,fun hs=>(z6g hs h.lt e.at_).2⟩
end
section
variable {α : Type} {sz : Nat} [E : Enc α sz]
end
section
variable {P : Program} {w0 w : World} {P0 F : HP} {α : Type} {sz : Nat} {E : Enc α sz} {t e bytes : Nat} {z : Value} {l l2 : List α} {o : Oper} {a : Act} {Q : Exit → Act → World → Prop} {s x : Operand} {ad sa : Option Addr} {m c sn sc : Nat}
end
section
variable {α : Type} {sz : Nat} [E : Enc α sz]
end
section
variable {P : Program} {w : World} {α : Type} {sz : Nat} {E : Enc α sz} {t e bytes : Nat} {z : Value} {l : List α} {ops : Array Oper} {rest : List Oper} {o : Oper} {a : Act} {Q : Exit → Act → World → Prop} {s lo hi : Operand} {sa : Option Addr} {sn sc : Nat} {i j : Int}
end
section
variable {α : Type} {sz : Nat} [E : Enc α sz]
end
end Go.Sx
namespace Go.Proofs.YthcfimbidmogkaaGreatDoor
open Go.RowKit Go.Sx Go.Lk
def s3 : Lk:=⟨[5,3,1],[3,3,1],[-1,0, -1],[0,1],[[1],[]]⟩
end Go.Proofs.YthcfimbidmogkaaGreatDoor
namespace Go.Proofs.YthcfimbidmogkaaGreatDoor
open Go.RowKit Go.Sx Go.Dl Go.Lk Go.Rq Go.Au
def z8J (κ : IntKind) (w : World) (v : Value) (ll : List (List Int)) : Prop:=∃ ms : List Mv,RdR w v ms ∧ ms.length = ll.length ∧ ∀ i,i < ll.length → RdN κ w (ms.getD i mv0).v (ll.getD i [])
theorem z8J.later {κ : IntKind} {w0 w : World} {v : Value} {ll : List (List Int)} {P : HP} (h : z8J κ w0 v ll) (hs : Sat w0 w P) : z8J κ w v ll:=by
 obtain ⟨ms,h1,h2,h3⟩:=h;exact ⟨ms,h1.later hs,h2,fun i hi=>(h3 i hi).later hs⟩
theorem z8J.form {κ : IntKind} {w : World} {v : Value} {ll : List (List Int)} (h : z8J κ w v ll) : ∃ a c b off,v = .slice a ll.length c ∧ ll.length ≤ 9223372036854775807 ∧ (ll ≠ [] → a = some ⟨b,off,none⟩) ∧
  ∀ k,k < ll.length → ∃ ra rn rc,w.cell? ⟨b,off + k,none⟩ = some (.slice ra rn rc) ∧ RdN κ w (.slice ra rn rc) (ll.getD k []):=by
 obtain ⟨ms,⟨a,cap,b,off,rfl,hcap,hbig,ha,hc⟩,h2,h3⟩:=h;refine ⟨a,cap,b,off,by rw [h2],by unfold maxLen at hbig;omega,fun hne=>ha (fun e=>hne (List.eq_nil_of_length_eq_zero (by rw [← h2,e];rfl))),fun k hk=>?_⟩;refine ⟨(ms.getD k mv0).a,(ms.getD k mv0).n,(ms.getD k mv0).c,hc k _ ?_,h3 k hk⟩;have:=z0Y (l:=ms) (k:=k) (c:=0) (by omega) (by decide);rw [Nat.mul_one,Nat.add_zero] at this;rw [this];rfl
end Go.Proofs.YthcfimbidmogkaaGreatDoor
