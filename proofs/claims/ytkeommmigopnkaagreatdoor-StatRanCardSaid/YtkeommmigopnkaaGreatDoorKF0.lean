/-
  Parts of the proof: VmA VmB VmC VmD VmE VmF.
-/
import Derived.WalkKit
import Derived.ArgAppend
import Derived.Deep.Draws
import Derived.Laws.IdiomCopy
import Derived.Laws.Cover3
import Derived.Laws.IdiomRangeMap
set_option linter.unusedVariables false
set_option linter.unusedSimpArgs false
set_option maxHeartbeats 32000000
set_option maxRecDepth 100000
namespace Go
theorem zqS {α:Type} {a:α} {l:List α} {i:Nat}:(a::l)[i+1]?=l[i]? := rfl
theorem zqZ {α:Type} {a:α} {l:List α}:(a::l)[0]?=some a := rfl
theorem zqA {α:Type} {l:List α} {i:Nat} {a:α}:l.toArray.setIfInBounds i a=(l.set i a).toArray := List.setIfInBounds_toArray l i a
theorem zqP {α:Type} {a b:α} {l:List α}:(a::l).set 0 b=b::l := rfl
theorem zqQ {α:Type} {a b:α} {l:List α} {i:Nat}:(a::l).set (i+1) b=a::l.set i b := rfl
end Go
namespace Go.Rq
end Go.Rq
namespace Go.Dl
end Go.Dl
namespace Go.Lk
end Go.Lk
namespace Go.Au
end Go.Au
namespace Go.Vm
end Go.Vm
namespace Go.Hi
end Go.Hi
namespace Go.Vm
open Go.RowKit
noncomputable section
inductive T (α:Type) where
 | e
 | n (v:Option α) (l r:T α)
def T.get {α:Type} (t:T α):Nat→Option α :=
 T.rec (motive:=fun _=>Nat→Option α) (fun _=>none) (fun v _ _ gl gr i=>Nat.rec (motive:=fun _=>Option α) v (fun j _=>Bool.rec (motive:=fun _=>Option α) (gr (Nat.shiftRight j 1)) (gl (Nat.shiftRight j 1)) (Nat.beq (Nat.land j 1) 0)) i) t
def T.set {α:Type} (f:Nat):T α→Nat→α→T α :=
 Nat.rec (motive:=fun _=>T α→Nat→α→T α) (fun _ _ _=>.e)
  (fun _ ih t i x=>T.rec (motive:=fun _=>T α)
   (Nat.rec (motive:=fun _=>T α) (.n (some x) .e .e) (fun j _=>Bool.rec (motive:=fun _=>T α) (.n none .e (ih .e (Nat.shiftRight j 1) x)) (.n none (ih .e (Nat.shiftRight j 1) x) .e) (Nat.beq (Nat.land j 1) 0)) i)
   (fun v l r _ _=>Nat.rec (motive:=fun _=>T α) (.n (some x) l r) (fun j _=>Bool.rec (motive:=fun _=>T α) (.n v l (ih r (Nat.shiftRight j 1) x)) (.n v (ih l (Nat.shiftRight j 1) x) r) (Nat.beq (Nat.land j 1) 0)) i) t) f
theorem brec {α:Type} (a b:α) (j:Nat):(Bool.rec (motive:=fun _=>α) a b (Nat.beq (Nat.land j 1) 0))=if j%2=0 then b else a:=by
 have h:Nat.land j 1=j%2:=Nat.and_one_is_mod j;rw [h]
 by_cases e:j%2=0
 ·rw [if_pos e,e];rfl
 ·rw [if_neg e,show Nat.beq (j%2) 0=false by rw [Bool.eq_false_iff];intro x;exact e (Nat.eq_of_beq_eq_true x)]
theorem shr (j:Nat):Nat.shiftRight j 1=j / 2:=Nat.shiftRight_eq_div_pow j 1
theorem T.get_e {α:Type} (j:Nat):(T.e:T α).get j=none:=rfl
theorem T.get_n0 {α:Type} (v:Option α) (l r:T α):(T.n v l r).get 0=v:=rfl
theorem T.get_ns {α:Type} (v:Option α) (l r:T α) (j:Nat):(T.n v l r).get (j+1)=if j%2=0 then l.get (j / 2) else r.get (j / 2):=by
 have:=brec (r.get (Nat.shiftRight j 1)) (l.get (Nat.shiftRight j 1)) j;rw [shr] at this;exact this
theorem T.set_0 {α:Type} (t:T α) (i:Nat) (x:α):T.set 0 t i x=.e:=rfl
theorem T.set_e0 {α:Type} (f:Nat) (x:α):T.set (f+1) .e 0 x=.n (some x) .e .e:=rfl
theorem T.set_n0 {α:Type} (f:Nat) (v:Option α) (l r:T α) (x:α):T.set (f+1) (.n v l r) 0 x=.n (some x) l r:=rfl
theorem T.set_es {α:Type} (f j:Nat) (x:α):T.set (f+1) .e (j+1) x=if j%2=0 then .n none (T.set f .e (j / 2) x) .e else .n none .e (T.set f .e (j / 2) x):=by
 have:=brec (T.n none .e (T.set f .e (Nat.shiftRight j 1) x)) (T.n none (T.set f .e (Nat.shiftRight j 1) x) .e) j;rw [shr] at this;exact this
theorem T.set_ns {α:Type} (f j:Nat) (v:Option α) (l r:T α) (x:α):T.set (f+1) (.n v l r) (j+1) x=if j%2=0 then .n v (T.set f l (j / 2) x) r else .n v l (T.set f r (j / 2) x):=by
 have:=brec (T.n v l (T.set f r (Nat.shiftRight j 1) x)) (T.n v (T.set f l (Nat.shiftRight j 1) x) r) j;rw [shr] at this;exact this
theorem T.get_set {α:Type}:∀ (f:Nat) (t:T α) (i:Nat) (x:α) (j:Nat) (y:α),(T.set f t i x).get j=some y→(j=i∧y=x)∨(j≠i∧t.get j=some y):=by
 intro f
 induction f with
 | zero=>intro t i x j y h;simp only [T.set_0,T.set_e0,T.set_n0,T.set_es,T.set_ns,T.get_e] at h;cases h
 | succ f ih =>
  intro t i x j y h
  cases t with
  | e =>
   cases i with
   | zero =>
    cases j with
    | zero=>simp only [T.set_0,T.set_e0,T.set_n0,T.set_es,T.set_ns,T.get_e,T.get_n0,T.get_ns,Option.some.injEq] at h;exact .inl ⟨rfl,h.symm⟩
    | succ j=>simp only [T.set_0,T.set_e0,T.set_n0,T.set_es,T.set_ns,T.get_e,T.get_n0,T.get_ns] at h;split at h<;>cases h
   | succ i =>
    cases j with
    | zero=>simp only [T.set_0,T.set_e0,T.set_n0,T.set_es,T.set_ns] at h;split at h<;>(simp only [T.get_n0] at h;cases h)
    | succ j =>
     simp only [T.set_0,T.set_e0,T.set_n0,T.set_es,T.set_ns] at h
     split at h
     ·rename_i hi
      simp only [T.get_e,T.get_n0,T.get_ns] at h
      split at h
      ·rename_i hj
       rcases ih _ _ _ _ _ h with ⟨e,e2⟩ | ⟨_,e2⟩
       ·exact .inl ⟨by omega,e2⟩
       ·rw [T.get_e] at e2;cases e2
      ·cases h
     ·rename_i hi
      simp only [T.get_e,T.get_n0,T.get_ns] at h
      split at h
      ·cases h
      ·rename_i hj
       rcases ih _ _ _ _ _ h with ⟨e,e2⟩ | ⟨_,e2⟩
       ·refine .inl ⟨?_,e2⟩;have a:=Nat.div_add_mod i 2;have b:=Nat.div_add_mod j 2;have c:=Nat.mod_lt i (show 2 > 0 by decide);have d:=Nat.mod_lt j (show 2 > 0 by decide);have hi':i%2≠0:=fun e=>hi e;have hj':j%2≠0:=fun e=>hj e;omega
       ·rw [T.get_e] at e2;cases e2
  | n v l r =>
   cases i with
   | zero =>
    cases j with
    | zero=>simp only [T.set_0,T.set_e0,T.set_n0,T.set_es,T.set_ns,T.get_e,T.get_n0,T.get_ns,Option.some.injEq] at h;exact .inl ⟨rfl,h.symm⟩
    | succ j=>exact .inr ⟨by omega,h⟩
   | succ i =>
    cases j with
    | zero=>simp only [T.set_0,T.set_e0,T.set_n0,T.set_es,T.set_ns] at h;split at h<;>exact .inr ⟨by omega,h⟩
    | succ j =>
     have a:=Nat.div_add_mod i 2;have b:=Nat.div_add_mod j 2;have c:=Nat.mod_lt i (show 2 > 0 by decide);have d:=Nat.mod_lt j (show 2 > 0 by decide);simp only [T.set_0,T.set_e0,T.set_n0,T.set_es,T.set_ns] at h
     split at h
     ·rename_i hi
      simp only [T.get_e,T.get_n0,T.get_ns] at h ⊢
      split at h
      ·rename_i hj
       rcases ih _ _ _ _ _ h with ⟨e,e2⟩ | ⟨e,e2⟩
       ·exact .inl ⟨by omega,e2⟩
       ·exact .inr ⟨by omega,by rw [if_pos hj];exact e2⟩
      ·rename_i hj
       have hj':j%2≠0:=fun e=>hj e;exact .inr ⟨by omega,by rw [if_neg hj'];exact h⟩
     ·rename_i hi
      have hi':i%2≠0:=fun e=>hi e;simp only [T.get_e,T.get_n0,T.get_ns] at h ⊢
      split at h
      ·rename_i hj
       exact .inr ⟨by omega,by rw [if_pos hj];exact h⟩
      ·rename_i hj
       have hj':j%2≠0:=fun e=>hj e
       rcases ih _ _ _ _ _ h with ⟨e,e2⟩ | ⟨e,e2⟩
       ·exact .inl ⟨by omega,e2⟩
       ·exact .inr ⟨by omega,by rw [if_neg hj'];exact e2⟩
inductive LR {α β:Type} (R:α→β→Prop):List α→List β→Prop
 | nil:LR R [] []
 | cons {a:α} {b:β} {l:List α} {m:List β} (h:R a b) (t:LR R l m):LR R (a::l) (b::m)
namespace LR
variable {α β:Type} {R S:α→β→Prop} {l:List α} {m:List β}
theorem len (h:LR R l m):l.length=m.length:=by induction h with | nil=>rfl | cons _ _ ih=>simp [ih]
theorem mono (h:LR R l m) (k:∀ a b,R a b→S a b):LR S l m:=by induction h with | nil=>exact .nil | cons h _ ih=>exact .cons (k _ _ h) ih
theorem get (h:LR R l m):∀ {i:Nat} {a:α},l[i]?=some a→∃ b,m[i]?=some b∧R a b:=by
 induction h with
 | nil=>intro i a e;simp at e
 | @cons a b l m h _ ih =>
  intro i x e
  cases i with
  | zero=>simp only [List.getElem?_cons_zero,Option.some.injEq] at e;subst e;exact ⟨b,rfl,h⟩
  | succ i=>simp only [List.getElem?_cons_succ] at e;obtain ⟨y,e1,e2⟩:=ih e;exact ⟨y,by simpa using e1,e2⟩
theorem append {l':List α} {m':List β} (h:LR R l m) (k:LR R l' m'):LR R (l++l') (m++m'):=by
 induction h with | nil=>exact k | cons h _ ih=>exact .cons h ih
theorem of_get:∀ {l:List α} {m:List β},l.length=m.length→(∀ (i:Nat) (a:α) (b:β),l[i]?=some a→m[i]?=some b→R a b)→LR R l m
 | [],[],_,_=>.nil
 | a::l,b::m,h,k=>.cons (k 0 a b rfl rfl) (of_get (by simpa using h) fun i a b e1 e2=>k (i+1) a b (by simpa using e1) (by simpa using e2))
theorem take (h:LR R l m) (n:Nat):LR R (l.take n) (m.take n):=by
 induction h generalizing n with
 | nil=>simp;exact .nil
 | cons h _ ih=>cases n with
  | zero=>exact .nil
  | succ n=>exact .cons h (ih n)
theorem drop (h:LR R l m) (n:Nat):LR R (l.drop n) (m.drop n):=by
 induction h generalizing n with
 | nil=>simp;exact .nil
 | cons h t ih=>cases n with
  | zero=>exact .cons h t
  | succ n=>exact ih n
theorem set {a:α} {b:β} (h:LR R l m) (k:R a b) (n:Nat):LR R (l.set n a) (m.set n b):=by
 induction h generalizing n with
 | nil=>exact .nil
 | cons h t ih=>cases n with
  | zero=>exact .cons k t
  | succ n=>exact .cons h (ih n)
theorem refl {R:α→α→Prop}:∀ {l:List α},(∀ a∈l,R a a)→LR R l l
 | [],_=>.nil
 | a::l,h=>.cons (h a (by simp)) (refl fun b hb=>h b (by simp [hb]))
end LR
abbrev Rho:=Nat→Option (Nat×Nat×Nat)
def UNK:Nat:=4611686018427387904
inductive SR (ρ:Rho):Value→Value→Prop
 | bool (b:Bool):SR ρ (.bool b) (.bool b)
 | int (k:IntKind) (n:Int):SR ρ (.int k n) (.int k n)
 | pnil:SR ρ (.pointer none) (.pointer none)
 | ptr {b o B O N:Nat} (h:ρ b=some (B,O,N)):SR ρ (.pointer (some ⟨b,o,none⟩)) (.pointer (some ⟨B,O+o,none⟩))
 | snil:SR ρ (.slice none 0 0) (.slice none 0 0)
 | sl {b o n c B O N:Nat} (h:ρ b=some (B,O,N)) (hc:c<UNK):SR ρ (.slice (some ⟨b,o,none⟩) n c) (.slice (some ⟨B,O+o,none⟩) n c)
 | su {b o n z c B O N:Nat} (h:ρ b=some (B,O,N)) (hz:0<z) (hn:n≤c) (ht:o+c*z=N) (hm:c≤maxLen):SR ρ (.slice (some ⟨b,o,none⟩) n (UNK+z)) (.slice (some ⟨B,O+o,none⟩) n c)
 | s0 {a a':Addr} {c:Nat}:SR ρ (.slice (some a) 0 UNK) (.slice (some a') 0 c)
 | mnil:SR ρ (.map none) (.map none)
 | map {b B O N:Nat} (h:ρ b=some (B,O,N)):SR ρ (.map (some b)) (.map (some B))
def Sub (ρ ρ':Rho):Prop:=∀ b x,ρ b=some x→ρ' b=some x
theorem Sub.refl (ρ:Rho):Sub ρ ρ:=fun _ _ h=>h
theorem Sub.trans {a b c:Rho} (h:Sub a b) (k:Sub b c):Sub a c:=fun x y e=>k x y (h x y e)
theorem SR.mono {ρ ρ':Rho} {a b:Value} (s:Sub ρ ρ') (h:SR ρ a b):SR ρ' a b:=by
 cases h with
 | bool=>exact .bool _
 | int=>exact .int _ _
 | pnil=>exact .pnil
 | ptr h=>exact .ptr (s _ _ h)
 | snil=>exact .snil
 | sl h hc=>exact .sl (s _ _ h) hc
 | su h hz hn ht hm=>exact .su (s _ _ h) hz hn ht hm
 | s0=>exact .s0
 | mnil=>exact .mnil
 | map h=>exact .map (s _ _ h)
inductive V1 (ρ:Rho):Value→Value→Prop
 | sc {a b:Value} (h:SR ρ a b):V1 ρ a b
 | agg {xs ys:Array Value} (h:LR (SR ρ) xs.toList ys.toList):V1 ρ (.agg xs) (.agg ys)
 | fn {f:FuncId} {xs ys:Array Value} (h:LR (SR ρ) xs.toList ys.toList):V1 ρ (.func (.func f) #[] xs) (.func (.func f) #[] ys)
inductive VR (ρ:Rho):Value→Value→Prop
 | one {a b:Value} (h:V1 ρ a b):VR ρ a b
 | tup {xs ys:Array Value} (h:LR (V1 ρ) xs.toList ys.toList):VR ρ (.tuple xs) (.tuple ys)
theorem V1.mono {ρ ρ':Rho} {a b:Value} (s:Sub ρ ρ') (h:V1 ρ a b):V1 ρ' a b:=by
 cases h with
 | sc h=>exact .sc (h.mono s)
 | agg h=>exact .agg (h.mono fun _ _=>SR.mono s)
 | fn h=>exact .fn (h.mono fun _ _=>SR.mono s)
theorem VR.mono {ρ ρ':Rho} {a b:Value} (s:Sub ρ ρ') (h:VR ρ a b):VR ρ' a b:=by
 cases h with
 | one h=>exact .one (h.mono s)
 | tup h=>exact .tup (h.mono fun _ _=>V1.mono s)
theorem VR.undef {ρ:Rho}:VR ρ undef undef:=.tup .nil
def pl1:Value→Bool
 | .bool _=>true
 | .int _ _=>true
 | .pointer none=>true
 | .slice none 0 0=>true
 | .map none=>true
 | _=>false
def all1:List Value→Bool
 | []=>true
 | v::l=>match pl1 v with
  | true=>all1 l
  | false=>false
def pl:Value→Bool
 | .agg cs=>all1 cs.toList
 | v=>pl1 v
theorem SR.refl1 {ρ:Rho} {a:Value} (h:pl1 a=true):SR ρ a a:=by
 unfold pl1 at h
 split at h
 ·exact .bool _
 ·exact .int _ _
 ·exact .pnil
 ·exact .snil
 ·exact .mnil
 ·cases h
theorem SR.eq1 {ρ:Rho} {a b:Value} (h:pl1 a=true) (r:SR ρ a b):b=a:=by
 cases r<;>first | rfl | (simp [pl1] at h)
theorem all1_mem:∀ {l:List Value},all1 l=true→∀ v∈l,pl1 v=true
 | v::l,h,u,hu=>by
  unfold all1 at h
  split at h
  ·rename_i e
   rcases List.mem_cons.1 hu with rfl | h2
   ·exact e
   ·exact all1_mem h u h2
  ·cases h
theorem LR.eq1 {ρ:Rho}:∀ {l m:List Value},all1 l=true→LR (SR ρ) l m→m=l
 | [],_,_,.nil=>rfl
 | v::l,_,h,.cons r t=>by
  have h1:=all1_mem h;unfold all1 at h
  split at h
  ·rw [SR.eq1 (h1 v (by simp)) r,LR.eq1 h t]
  ·cases h
theorem LR.refl1 {ρ:Rho} {l:List Value} (h:all1 l=true):LR (SR ρ) l l:=LR.refl fun a ha=>SR.refl1 (all1_mem h a ha)
theorem V1.refl1 {ρ:Rho} {a:Value} (h:pl a=true):V1 ρ a a:=by
 cases a with
 | agg cs=>exact .agg (LR.refl1 h)
 | _=>exact .sc (SR.refl1 h)
theorem V1.eq1 {ρ:Rho} {a b:Value} (h:pl a=true) (r:V1 ρ a b):b=a:=by
 cases r with
 | sc r=>cases r<;>first | rfl | (simp [pl,pl1] at h)
 | agg r=>have:=LR.eq1 h r;rw [Array.toList_inj.1 this]
 | fn r=>simp [pl,pl1] at h
theorem VR.eq1 {ρ:Rho} {a b:Value} (h:pl a=true) (r:VR ρ a b):b=a:=by
 cases r with
 | one r=>exact r.eq1 h
 | tup r=>simp [pl,pl1] at h
theorem SR.one {ρ:Rho} {a b:Value} (h:SR ρ a b):b.oneCell'=true:=by cases h<;>rfl
theorem SR.cells {ρ:Rho} {a b:Value} (h:SR ρ a b):a.cells=#[a]∧b.cells=#[b]:=by cases h<;>exact ⟨rfl,rfl⟩
def cellsOf:Value→Option (List Value)
 | .agg cs=>some cs.toList
 | .tuple _=>none
 | .func _ _ _=>none
 | v=>some [v]
theorem V1.cells {ρ:Rho} {a b:Value} {l:List Value} (h:V1 ρ a b) (e:cellsOf a=some l):LR (SR ρ) l b.cells.toList:=by
 cases h with
 | sc h =>
  have hb:=h.cells.2;rw [hb];have:l=[a]:=by cases h<;>simp [cellsOf] at e<;>exact e.symm
  subst this;exact .cons h .nil
 | agg h=>simp only [cellsOf,Option.some.injEq] at e;subst e;exact h
 | fn h=>simp [cellsOf] at e
inductive Blk where
 | dead
 | cells (n:Nat) (t:T Value)
 | ro (n:Nat) (t:T Value)
 | mp (es:Array MapEntry) (c:Nat)
 | it (m since:Nat) (seen:Array Nat) (last:Nat)
structure Mem where
 bs:T Blk
 nx:Nat
def FU:Nat:=40
def Mem.put (M:Mem) (b:Nat) (x:Blk):Mem:=⟨M.bs.set FU b x,M.nx⟩
theorem Mem.get_put {M:Mem} {b:Nat} {x:Blk} {j:Nat} {y:Blk} (h:(M.put b x).bs.get j=some y):(j=b∧y=x)∨(j≠b∧M.bs.get j=some y):=T.get_set FU _ _ _ _ _ h
structure MR (w0:World) (ρ:Rho) (M:Mem) (w:World):Prop where
 below:Below w0.heap.size w0 w
 fresh:∀ b,M.nx≤b→ρ b=none
 cel:∀ b n t B O N,M.bs.get b=some (.cells n t)→ρ b=some (B,O,N)→n≤N∧w0.heap.size≤B ∧
  ∀ j,j<N→∃ v',w.cell? ⟨B,O+j,none⟩=some v'∧w.frozen? ⟨B,O+j,none⟩=false∧∀ v,j<n→t.get j=some v→SR ρ v v'
 rom:∀ b n t B O N,M.bs.get b=some (.ro n t)→ρ b=some (B,O,N)→B<w0.heap.size∧∀ j v,j<n→t.get j=some v→pl1 v=true∧w.cell? ⟨B,O+j,none⟩=some v
 mp:∀ b es c B O N,M.bs.get b=some (.mp es c)→ρ b=some (B,O,N)→w0.heap.size≤B∧O=0∧w.heap[B]?=some (.map es c)
 it:∀ b m s k p B O N,M.bs.get b=some (.it m s k p)→ρ b=some (B,O,N)→w0.heap.size≤B∧O=0∧∃ mB mO mN,ρ m=some (mB,mO,mN)∧w.heap[B]?=some (.mapIter (some mB) s k p)
 ap:∀ b1 n1 t1 b2 n2 t2 B O1 N1 O2 N2 j1 j2,M.bs.get b1=some (.cells n1 t1)→M.bs.get b2=some (.cells n2 t2)→ρ b1=some (B,O1,N1)→ρ b2=some (B,O2,N2)→j1<N1→j2<N2→O1+j1=O2+j2→b1=b2
 apo:∀ b1 x1 b2 x2 B O1 N1 O2 N2,M.bs.get b1=some x1→M.bs.get b2=some x2→(∃ es c,x1=.mp es c)∨(∃ m s k p,x1=.it m s k p)→(∃ es c,x2=.mp es c)∨(∃ m s k p,x2=.it m s k p)→ρ b1=some (B,O1,N1)→ρ b2=some (B,O2,N2)→b1=b2
 lim:∀ b B O N,ρ b=some (B,O,N)→B<w.heap.size
structure Grow (ρ:Rho) (M:Mem) (ρ':Rho) (M':Mem):Prop where
 ext:∀ b,b<M.nx→ρ' b=ρ b
 nx:M.nx≤M'.nx
 keep:∀ b y,b<M.nx→ρ b=none→M'.bs.get b=some y→M.bs.get b=some y
theorem Grow.refl (ρ:Rho) (M:Mem):Grow ρ M ρ M:=⟨fun _ _=>rfl,Nat.le_refl _,fun _ _ _ _ h=>h⟩
theorem Grow.trans {ρ ρ1 ρ2:Rho} {M M1 M2:Mem} (h:Grow ρ M ρ1 M1) (k:Grow ρ1 M1 ρ2 M2):Grow ρ M ρ2 M2 :=
 ⟨fun b hb=>(k.ext b (Nat.lt_of_lt_of_le hb h.nx)).trans (h.ext b hb),Nat.le_trans h.nx k.nx,fun b y hb e hy=>h.keep b y hb e (k.keep b y (Nat.lt_of_lt_of_le hb h.nx) ((h.ext b hb).trans e) hy)⟩
theorem MR.sub {w0:World} {ρ ρ':Rho} {M M':Mem} {w:World} (h:MR w0 ρ M w) (g:Grow ρ M ρ' M'):Sub ρ ρ':=fun b x e=>by
 rw [g.ext b ?_];exact e;refine Nat.lt_of_not_le fun hb=>?_;rw [h.fresh b hb] at e;cases e
end
noncomputable section
def wr (t:T Value) (o:Nat):List Value→T Value
 | []=>t
 | v::l=>wr (t.set FU o v) (o+1) l
def rd (t:T Value) (o:Nat):Nat→Option (List Value)
 | 0=>some []
 | n+1=>match t.get o with
  | none=>none
  | some v=>match rd t (o+1) n with
   | none=>none
   | some l=>some (v::l)
theorem get_wr:∀ (vs:List Value) (t:T Value) (o j:Nat) (y:Value),(wr t o vs).get j=some y→(∃ i,j=o+i∧vs[i]?=some y)∨((j<o∨o+vs.length≤j)∧t.get j=some y)
 | [],t,o,j,y,h=>.inr ⟨by simp;omega,h⟩
 | v::l,t,o,j,y,h=>by
  rcases get_wr l _ _ _ _ h with ⟨i,e1,e2⟩ | ⟨h1,h2⟩
  ·exact .inl ⟨i+1,by omega,by simpa using e2⟩
  ·rcases T.get_set _ _ _ _ _ _ h2 with ⟨e1,e2⟩ | ⟨e1,e2⟩
   ·exact .inl ⟨0,by omega,by simp [e2]⟩
   ·exact .inr ⟨by simp;omega,e2⟩
theorem rd_spec:∀ (n:Nat) (t:T Value) (o:Nat) (l:List Value),rd t o n=some l→l.length=n∧∀ i v,l[i]?=some v→t.get (o+i)=some v
 | 0,t,o,l,h=>by simp only [rd,Option.some.injEq] at h;subst h;simp
 | n+1,t,o,l,h=>by
  simp only [rd] at h
  split at h
  ·cases h
  ·rename_i v hv
   split at h
   ·cases h
   ·rename_i l' hl
    simp only [Option.some.injEq] at h;subst h;obtain ⟨a,b⟩:=rd_spec n t (o+1) l' hl;refine ⟨by simp [a],fun i u hu=>?_⟩
    cases i with
    | zero=>simp only [List.getElem?_cons_zero,Option.some.injEq] at hu;subst hu;exact hv
    | succ i=>rw [show o+(i+1)=o+1+i by omega];exact b i u (by simpa using hu)
section
variable {w0 w w':World} {ρ:Rho} {M:Mem}
theorem MR.same (h:MR w0 ρ M w) (hh:w'.heap=w.heap) (ho:w'.os=w.os) (ht:w'.tape=w.tape) (hp:w'.output=w.output):MR w0 ρ M w':=by
 have ec:∀ a,w'.cell? a=w.cell? a:=fun a=>by simp only [World.cell?,hh]
 have ef:∀ a,w'.frozen? a=w.frozen? a:=fun a=>by simp only [World.frozen?,hh]
 refine ⟨⟨ho.trans h.below.os,ht.trans h.below.tape,hp.trans h.below.output,by rw [hh];exact h.below.size,fun i hi=>by rw [hh];exact h.below.block i hi⟩,h.fresh,?_,?_,?_,?_,h.ap,h.apo,by rw [hh];exact h.lim⟩
 ·simp only [ec,ef];exact h.cel
 ·simp only [ec];exact h.rom
 ·rw [hh];exact h.mp
 ·rw [hh];exact h.it
theorem MR.drew (h:MR w0 ρ M w):MR w0 ρ M w.drew:=h.same rfl rfl rfl rfl
def Mem.ld (M:Mem) (b o n:Nat):Option (List Value) :=
 match M.bs.get b with
 | some (.cells m t)=>match Nat.ble (o+n) m with
  | true=>rd t o n
  | false=>none
 | some (.ro m t)=>match Nat.ble (o+n) m with
  | true=>rd t o n
  | false=>none
 | _=>none
theorem MR.ld (h:MR w0 ρ M w) {b o n B O N:Nat} {l:List Value} (hl:M.ld b o n=some l) (hb:ρ b=some (B,O,N)) :
  ∃ l',LR (SR ρ) l l'∧l'.length=n∧∀ j v,l'[j]?=some v→w.cell? ⟨B,O+o+j,none⟩=some v:=by
 unfold Mem.ld at hl
 split at hl
 ·rename_i m t hm
  split at hl
  ·rename_i hle
   have hle:=Nat.le_of_ble_eq_true hle;obtain ⟨h1,h2⟩:=rd_spec _ _ _ _ hl;obtain ⟨c1,c2,c3⟩:=h.cel _ _ _ _ _ _ hm hb;have key:∀ j,j<n→∃ v',w.cell? ⟨B,O+o+j,none⟩=some v':=fun j hj=>by
    obtain ⟨v',a,_,_⟩:=c3 (o+j) (by omega);exact ⟨v',by rw [Nat.add_assoc];exact a⟩
   refine ⟨(List.range n).map fun j=>(w.cell? ⟨B,O+o+j,none⟩).getD undef,LR.of_get (by simp [h1]) ?_,by simp,?_⟩
   ·intro i a b' e1 e2;have hi:i<n:=by rw [← h1];exact (List.getElem?_eq_some_iff.1 e1).1
    simp only [List.getElem?_map,List.getElem?_range hi,Option.map_some,Option.some.injEq] at e2;obtain ⟨v',a1,_,a3⟩:=c3 (o+i) (by omega);rw [Nat.add_assoc,a1,Option.getD_some] at e2;rw [← e2];exact a3 a (by omega) (h2 i a e1)
   ·intro j v e;have hj:j<n:=by have:=(List.getElem?_eq_some_iff.1 e).1;simpa using this
    simp only [List.getElem?_map,List.getElem?_range hj,Option.map_some,Option.some.injEq] at e;obtain ⟨v',a1⟩:=key j hj;rw [a1] at e;rw [a1];simpa using e
  ·cases hl
 ·rename_i m t hm
  split at hl
  ·rename_i hle
   have hle:=Nat.le_of_ble_eq_true hle;obtain ⟨h1,h2⟩:=rd_spec _ _ _ _ hl;obtain ⟨c1,c3⟩:=h.rom _ _ _ _ _ _ hm hb;refine ⟨l,LR.refl fun a ha=>?_,h1,fun j v e=>?_⟩
   ·obtain ⟨i,hi,e⟩:=List.getElem_of_mem ha;exact SR.refl1 (c3 (o+i) a (by omega) (h2 i a (by rw [List.getElem?_eq_getElem hi,e]))).1
   ·have hj:j<n:=by rw [← h1];exact (List.getElem?_eq_some_iff.1 e).1
    have:=(c3 (o+j) v (by omega) (h2 j v e)).2
    rwa [← Nat.add_assoc] at this
  ·cases hl
 ·cases hl
theorem MR.hole (h:MR w0 ρ M w) {b:Nat} (hb:ρ b=none) (x:Blk):MR w0 ρ (M.put b x) w:=by
 have key:∀ {j y},(∃ z,ρ j=some z)→(M.put b x).bs.get j=some y→M.bs.get j=some y:=fun {j y} hj e=>by
  rcases Mem.get_put e with ⟨e1,_⟩ | ⟨_,e2⟩
  ·rw [e1,hb] at hj;obtain ⟨_,hz⟩:=hj;cases hz
  ·exact e2
 exact ⟨h.below,h.fresh,fun b n t B O N g e=>h.cel b n t B O N (key ⟨_,e⟩ g) e,fun b n t B O N g e=>h.rom b n t B O N (key ⟨_,e⟩ g) e,
  fun b es c B O N g e=>h.mp b es c B O N (key ⟨_,e⟩ g) e,fun b m s k p B O N g e=>h.it b m s k p B O N (key ⟨_,e⟩ g) e,
  fun b1 n1 t1 b2 n2 t2 B O1 N1 O2 N2 j1 j2 g1 g2 e1 e2=>h.ap b1 n1 t1 b2 n2 t2 B O1 N1 O2 N2 j1 j2 (key ⟨_,e1⟩ g1) (key ⟨_,e2⟩ g2) e1 e2,
  fun b1 x1 b2 x2 B O1 N1 O2 N2 g1 g2 k1 k2 e1 e2=>h.apo b1 x1 b2 x2 B O1 N1 O2 N2 (key ⟨_,e1⟩ g1) (key ⟨_,e2⟩ g2) k1 k2 e1 e2,h.lim⟩
theorem MR.dead (h:MR w0 ρ M w) (b:Nat):MR w0 ρ (M.put b .dead) w:=by
 have key:∀ {j y},y≠.dead→(M.put b .dead).bs.get j=some y→M.bs.get j=some y:=fun {j y} hj e=>by
  rcases Mem.get_put e with ⟨_,e1⟩ | ⟨_,e2⟩
  ·exact absurd e1 hj
  ·exact e2
 exact ⟨h.below,h.fresh,fun b n t B O N g e=>h.cel b n t B O N (key (by simp) g) e,fun b n t B O N g e=>h.rom b n t B O N (key (by simp) g) e,
  fun b es c B O N g e=>h.mp b es c B O N (key (by simp) g) e,fun b m s k p B O N g e=>h.it b m s k p B O N (key (by simp) g) e,
  fun b1 n1 t1 b2 n2 t2 B O1 N1 O2 N2 j1 j2 g1 g2 e1 e2=>h.ap b1 n1 t1 b2 n2 t2 B O1 N1 O2 N2 j1 j2 (key (by simp) g1) (key (by simp) g2) e1 e2,
  fun b1 x1 b2 x2 B O1 N1 O2 N2 g1 g2 k1 k2 e1 e2=>h.apo b1 x1 b2 x2 B O1 N1 O2 N2 (key (by rcases k1 with ⟨_,_,rfl⟩ | ⟨_,_,_,_,rfl⟩<;>simp) g1) (key (by rcases k2 with ⟨_,_,rfl⟩ | ⟨_,_,_,_,rfl⟩<;>simp) g2) k1 k2 e1 e2,h.lim⟩
theorem MR.raise (h:MR w0 ρ M w) {k:Nat} (hk:M.nx≤k):MR w0 ρ ⟨M.bs,k⟩ w :=
 ⟨h.below,fun b hb=>h.fresh b (Nat.le_trans hk hb),h.cel,h.rom,h.mp,h.it,h.ap,h.apo,h.lim⟩
structure Turn (w0 w w':World) (B O N:Nat):Prop where
 below:Below w0.heap.size w0 w'
 size:w'.heap.size=w.heap.size
 cell:∀ a:Addr,a.spot=none→(a.block=B→a.off<O∨O+N≤a.off)→w'.cell? a=w.cell? a
 fro:∀ a,w'.frozen? a=w.frozen? a
 obj:∀ (k:Nat) (x:Obj),(∀ c e f,x≠.cells c e f)→w.heap[k]?=some x→w'.heap[k]?=some x
theorem setCell_obj (w:World) (a:Addr) (v:Value) (k:Nat) (x:Obj) (hx:∀ c e f,x≠.cells c e f) (h:w.heap[k]?=some x):(w.setCell a v).heap[k]?=some x:=by
 simp only [World.setCell,Array.getElem?_modify]
 split
 ·rw [h]
  cases x<;>first | rfl | exact absurd rfl (hx _ _ _)
 ·exact h
theorem Turn.sets {w0:World} {B:Nat}:∀ (vs:List Value) (w:World) (o O N:Nat),Below w0.heap.size w0 w→w0.heap.size≤B→O≤o→o+vs.length≤O+N→Turn w0 w (w.setCells B o vs) B O N
 | [],w,o,O,N,hb,_,_,_=>⟨hb,rfl,fun _ _ _=>rfl,fun _=>rfl,fun _ _ _ h=>h⟩
 | v::l,w,o,O,N,hb,hB,h1,h2=>by
  simp only [List.length_cons] at h2;have t:=Turn.sets (w0:=w0) l (w.setCell ⟨B,o,none⟩ v) (o+1) O N (hb.setCell hB v) hB (by omega) (by omega);refine ⟨t.below,t.size.trans (by simp),fun a hs ha=>(t.cell a hs ha).trans (World.cell?_setCell_other _ _ _ _ fun e=>?_),fun a=>(t.fro a).trans (World.frozen?_setCell _ _ _ _),fun k x hx h=>t.obj k x hx (setCell_obj _ _ _ _ _ hx h)⟩;have:=ha (by rw [← e]);rw [← e] at this;simp only at this;omega
theorem MR.turn (h:MR w0 ρ M w) {b n n' B O N:Nat} {t t':T Value} (hm:M.bs.get b=some (.cells n t)) (hb:ρ b=some (B,O,N)) (ht:Turn w0 w w' B O N) (hn:n'≤N)
  (hin:∀ j,j<N→∃ v',w'.cell? ⟨B,O+j,none⟩=some v'∧∀ v,j<n'→t'.get j=some v→SR ρ v v'):MR w0 ρ (M.put b (.cells n' t')) w':=by
 obtain ⟨c1,c2,c3⟩:=h.cel _ _ _ _ _ _ hm hb;have kc:∀ {j n'' t''},(M.put b (.cells n' t')).bs.get j=some (.cells n'' t'')→(j=b∧n''=n'∧t''=t')∨(j≠b∧M.bs.get j=some (.cells n'' t'')):=fun {j n'' t''} e=>by
  rcases Mem.get_put e with ⟨e1,e2⟩ | ⟨e1,e2⟩
  ·injection e2 with e3 e4;exact .inl ⟨e1,e3,e4⟩
  ·exact .inr ⟨e1,e2⟩
 have kl:∀ {j n'' t''},(M.put b (.cells n' t')).bs.get j=some (.cells n'' t'')→∃ m s,M.bs.get j=some (.cells m s):=fun {j n'' t''} e=>by
  rcases kc e with ⟨e1,e2,_⟩ | ⟨_,e2⟩
  ·exact ⟨n,t,by rw [e1];exact hm⟩
  ·exact ⟨_,_,e2⟩
 have ko:∀ {j y},(∀ n t,y≠.cells n t)→(M.put b (.cells n' t')).bs.get j=some y→M.bs.get j=some y:=fun {j y} hj e=>by
  rcases Mem.get_put e with ⟨_,e1⟩ | ⟨_,e2⟩
  ·exact absurd e1 (hj _ _)
  ·exact e2
 refine ⟨ht.below,h.fresh,?_,?_,?_,?_,?_,?_,by rw [ht.size];exact h.lim⟩
 ·intro b' n'' t'' B' O' N' g e
  rcases kc g with ⟨rfl,rfl,rfl⟩ | ⟨hne,g'⟩
  ·rw [hb] at e;simp only [Option.some.injEq,Prod.mk.injEq] at e;obtain ⟨rfl,rfl,rfl⟩:=e;refine ⟨hn,c2,fun i hi=>?_⟩;obtain ⟨x,x1,x2⟩:=hin i hi;obtain ⟨_,_,x3,_⟩:=c3 i hi;exact ⟨x,x1,by rw [ht.fro];exact x3,x2⟩
  ·obtain ⟨d1,d2,d3⟩:=h.cel _ _ _ _ _ _ g' e;refine ⟨d1,d2,fun i hi=>?_⟩;obtain ⟨x,x1,x2,x3⟩:=d3 i hi;refine ⟨x,?_,by rw [ht.fro];exact x2,x3⟩;rw [ht.cell _ rfl ?_]; · exact x1
   intro a;dsimp only at a ⊢;subst a
   by_cases hlt:O'+i<O∨O+N≤O'+i
   ·exact hlt
   ·exact absurd (h.ap _ _ _ _ _ _ _ _ _ _ _ i (O'+i-O) g' hm e hb hi (by omega) (by omega)) hne
 ·intro b' n'' t'' B' O' N' g e;obtain ⟨d1,d2⟩:=h.rom _ _ _ _ _ _ (ko (by simp) g) e;refine ⟨d1,fun i y hi hy=>⟨(d2 i y hi hy).1,?_⟩⟩;rw [ht.cell _ rfl (by dsimp only;omega)];exact (d2 i y hi hy).2
 ·intro b' es c B' O' N' g e;obtain ⟨d1,d2,d3⟩:=h.mp _ _ _ _ _ _ (ko (by simp) g) e;exact ⟨d1,d2,ht.obj _ _ (by simp) d3⟩
 ·intro b' m s k p B' O' N' g e;obtain ⟨d1,d2,mB,mO,mN,d3,d4⟩:=h.it _ _ _ _ _ _ _ _ (ko (by simp) g) e;exact ⟨d1,d2,mB,mO,mN,d3,ht.obj _ _ (by simp) d4⟩
 ·intro b1 n1 t1 b2 n2 t2 B' O1 N1 O2 N2 j1 j2 g1 g2;obtain ⟨_,_,g1'⟩:=kl g1;obtain ⟨_,_,g2'⟩:=kl g2;exact h.ap _ _ _ _ _ _ _ _ _ _ _ _ _ g1' g2'
 ·intro b1 x1 b2 x2 B' O1 N1 O2 N2 g1 g2 k1 k2 e1 e2;exact h.apo b1 x1 b2 x2 B' O1 N1 O2 N2 (ko (by rcases k1 with ⟨_,_,rfl⟩ | ⟨_,_,_,_,rfl⟩<;>simp) g1) (ko (by rcases k2 with ⟨_,_,rfl⟩ | ⟨_,_,_,_,rfl⟩<;>simp) g2) k1 k2 e1 e2
theorem MR.sets (h:MR w0 ρ M w) {b n B O N o:Nat} {t:T Value} {vs vs':List Value} (hm:M.bs.get b=some (.cells n t)) (hb:ρ b=some (B,O,N)) (hv:LR (SR ρ) vs vs') (hle:o+vs.length≤n) :
  MR w0 ρ (M.put b (.cells n (wr t o vs))) (w.setCells B (O+o) vs')∧(∀ j,j<vs'.length→(w.cell? ⟨B,O+o+j,none⟩).isSome=true)∧(∀ j,j<vs'.length→w.frozen? ⟨B,O+o+j,none⟩=false)∧∀ v∈vs',v.oneCell'=true:=by
 obtain ⟨c1,c2,c3⟩:=h.cel _ _ _ _ _ _ hm hb;have hlen:=hv.len;have k1:∀ j,j<vs'.length→(w.cell? ⟨B,O+o+j,none⟩).isSome=true:=fun j hj=>by
  obtain ⟨x,x1,_,_⟩:=c3 (o+j) (by omega);rw [Nat.add_assoc,x1];rfl
 refine ⟨h.turn hm hb (Turn.sets vs' w (O+o) O N h.below c2 (by omega) (by omega)) c1 fun j hj=>?_,k1,fun j hj=>?_,fun v hv'=>?_⟩
 ·obtain ⟨x,x1,x2,x3⟩:=c3 j hj
  by_cases hin:o≤j∧j<o+vs'.length
  ·have hk:j-o<vs'.length:=by omega
   have e:=World.cell?_setCells_in B vs' (O+o) w k1 (j-o) hk;rw [show O+o+(j-o)=O+j by omega] at e;refine ⟨_,e,fun v hv1 hv2=>?_⟩
   rcases get_wr _ _ _ _ _ hv2 with ⟨i,e1,e2⟩ | ⟨e1,_⟩
   ·obtain ⟨u,u1,u2⟩:=hv.get e2;rw [show i=j-o by omega,List.getElem?_eq_getElem hk] at u1;simp only [Option.some.injEq] at u1;rw [u1];exact u2
   ·omega
  ·refine ⟨x,by rw [World.cell?_setCells_out B vs' (O+o) w _ (by intro _ _;dsimp only;omega)];exact x1,fun v hv1 hv2=>?_⟩
   rcases get_wr _ _ _ _ _ hv2 with ⟨i,e1,e2⟩ | ⟨_,e2⟩
   ·have:=(List.getElem?_eq_some_iff.1 e2).1;omega
   ·exact x3 v hv1 e2
 ·obtain ⟨x,_,x2,_⟩:=c3 (o+j) (by omega);rw [Nat.add_assoc];exact x2
 ·obtain ⟨i,hi,e⟩:=List.getElem_of_mem hv';obtain ⟨u,u1,u2⟩:=hv.get (List.getElem?_eq_getElem (show i<vs.length by omega));rw [List.getElem?_eq_getElem hi,e] at u1;simp only [Option.some.injEq] at u1;rw [u1];exact u2.one
def upd (ρ:Rho) (b:Nat) (x:Nat×Nat×Nat):Rho:=fun j=>if j=b then some x else ρ j
theorem upd_sub {ρ:Rho} {b:Nat} {x:Nat×Nat×Nat} (h:ρ b=none):Sub ρ (upd ρ b x):=fun j y e=>by
 unfold upd
 split
 ·rename_i hj;rw [hj,h] at e;cases e
 ·exact e
theorem upd_inv {ρ:Rho} {b j:Nat} {x y:Nat×Nat×Nat} (h:upd ρ b x j=some y):(j=b∧y=x)∨(j≠b∧ρ j=some y):=by
 unfold upd at h
 split at h
 ·rename_i hj;exact .inl ⟨hj,(Option.some.inj h).symm⟩
 ·rename_i hj;exact .inr ⟨hj,h⟩
theorem MR.fill (h:MR w0 ρ M w) {b:Nat} (hb:ρ b=none) (hlt:b<M.nx) (c:Array Value) (ty:TypeId)
  (hc:∀ y,M.bs.get b=some y→∃ n t,y=.cells n t∧n≤c.size∧∀ j v,j<n→t.get j=some v→∃ v',c[j]?=some v'∧SR ρ v v') :
  MR w0 (upd ρ b (w.heap.size,0,c.size)) M (w.alloc (.cells c ty)):=by
 have hs:=upd_sub (x:=(w.heap.size,0,c.size)) hb;have hsz:w0.heap.size≤w.heap.size:=h.below.size;have old:∀ {b' B O N},ρ b'=some (B,O,N)→B<w.heap.size:=fun e=>h.lim _ _ _ _ e;refine ⟨h.below.alloc hsz _,fun j hj=>?_,?_,?_,?_,?_,?_,?_,?_⟩
 ·unfold upd;rw [if_neg (by omega)];exact h.fresh j hj
 ·intro b' n t B O N g e
  rcases upd_inv e with ⟨rfl,e2⟩ | ⟨hne,e2⟩
  ·simp only [Prod.mk.injEq] at e2;obtain ⟨rfl,rfl,rfl⟩:=e2;obtain ⟨n',t',e3,e4,e5⟩:=hc _ g
   injection e3 with e6 e7
   subst e6 e7;refine ⟨e4,hsz,fun j hj=>⟨c[j],by rw [World.cell?_alloc_new];simp [hj],World.frozen?_alloc_new w c ty _,fun v hv hg=>?_⟩⟩;obtain ⟨v',a1,a2⟩:=e5 j v hv hg;rw [Array.getElem?_eq_getElem hj] at a1;simp only [Option.some.injEq] at a1;rw [a1];exact a2.mono hs
  ·obtain ⟨d1,d2,d3⟩:=h.cel _ _ _ _ _ _ g e2;have hB:=old e2;refine ⟨d1,d2,fun j hj=>?_⟩;obtain ⟨x,x1,x2,x3⟩:=d3 j hj;exact ⟨x,by rw [World.cell?_alloc_old _ _ _ (by dsimp only;omega)];exact x1,by rw [World.frozen?_alloc_old _ _ _ (by dsimp only;omega)];exact x2,fun v a1 a2=>(x3 v a1 a2).mono hs⟩
 ·intro b' n t B O N g e
  rcases upd_inv e with ⟨rfl,_⟩ | ⟨hne,e2⟩
  ·obtain ⟨_,_,e3,_⟩:=hc _ g;cases e3
  ·obtain ⟨d1,d2⟩:=h.rom _ _ _ _ _ _ g e2;refine ⟨d1,fun i y hi hy=>⟨(d2 i y hi hy).1,?_⟩⟩;rw [World.cell?_alloc_old _ _ _ (by dsimp only;omega)];exact (d2 i y hi hy).2
 ·intro b' es cc B O N g e
  rcases upd_inv e with ⟨rfl,_⟩ | ⟨hne,e2⟩
  ·obtain ⟨_,_,e3,_⟩:=hc _ g;cases e3
  ·obtain ⟨d1,d2,d3⟩:=h.mp _ _ _ _ _ _ g e2;exact ⟨d1,d2,by rw [Below.heap_alloc _ _ _ (old e2)];exact d3⟩
 ·intro b' m s k p B O N g e
  rcases upd_inv e with ⟨rfl,_⟩ | ⟨hne,e2⟩
  ·obtain ⟨_,_,e3,_⟩:=hc _ g;cases e3
  ·obtain ⟨d1,d2,mB,mO,mN,d3,d4⟩:=h.it _ _ _ _ _ _ _ _ g e2;exact ⟨d1,d2,mB,mO,mN,hs _ _ d3,by rw [Below.heap_alloc _ _ _ (old e2)];exact d4⟩
 ·intro b1 n1 t1 b2 n2 t2 B O1 N1 O2 N2 j1 j2 g1 g2 e1 e2 h1 h2 he
  rcases upd_inv e1 with ⟨rfl,a1⟩ | ⟨_,a1⟩<;>rcases upd_inv e2 with ⟨rfl,a2⟩ | ⟨_,a2⟩
  ·rfl
  ·have:=old a2;simp only [Prod.mk.injEq] at a1;omega
  ·have:=old a1;simp only [Prod.mk.injEq] at a2;omega
  ·exact h.ap _ _ _ _ _ _ _ _ _ _ _ _ _ g1 g2 a1 a2 h1 h2 he
 ·intro b1 x1 b2 x2 B O1 N1 O2 N2 g1 g2 k1 k2 e1 e2
  rcases upd_inv e1 with ⟨rfl,a1⟩ | ⟨_,a1⟩<;>rcases upd_inv e2 with ⟨rfl,a2⟩ | ⟨_,a2⟩
  ·rfl
  ·have:=old a2;simp only [Prod.mk.injEq] at a1;omega
  ·have:=old a1;simp only [Prod.mk.injEq] at a2;omega
  ·exact h.apo _ _ _ _ _ _ _ _ _ g1 g2 k1 k2 a1 a2
 ·intro b' B O N e
  rcases upd_inv e with ⟨_,a⟩ | ⟨_,a⟩
  ·simp only [Prod.mk.injEq] at a;simp;omega
  ·have:=old a;simp;omega
theorem MR.fillObj (h:MR w0 ρ M w) {b:Nat} (hb:ρ b=none) (hlt:b<M.nx) (x:Obj)
  (hc:∀ y,M.bs.get b=some y→(∃ es c,y=.mp es c∧x=.map es c)∨∃ m s k p mB mO mN,y=.it m s k p∧ρ m=some (mB,mO,mN)∧x=.mapIter (some mB) s k p) :
  MR w0 (upd ρ b (w.heap.size,0,0)) M (w.alloc x):=by
 have hs:=upd_sub (x:=(w.heap.size,0,0)) hb;have hsz:w0.heap.size≤w.heap.size:=h.below.size;have old:∀ {b' B O N},ρ b'=some (B,O,N)→B<w.heap.size:=fun e=>h.lim _ _ _ _ e;have new:(w.alloc x).heap[w.heap.size]?=some x:=by show (w.heap.push x)[w.heap.size]?=some x;simp
 refine ⟨h.below.alloc hsz _,fun j hj=>?_,?_,?_,?_,?_,?_,?_,?_⟩
 ·unfold upd;rw [if_neg (by omega)];exact h.fresh j hj
 ·intro b' n t B O N g e
  rcases upd_inv e with ⟨rfl,e2⟩ | ⟨hne,e2⟩
  ·rcases hc _ g with ⟨_,_,e3,_⟩ | ⟨_,_,_,_,_,_,_,e3,_⟩<;>cases e3
  ·obtain ⟨d1,d2,d3⟩:=h.cel _ _ _ _ _ _ g e2;have hB:=old e2;refine ⟨d1,d2,fun j hj=>?_⟩;obtain ⟨y,x1,x2,x3⟩:=d3 j hj;exact ⟨y,by rw [World.cell?_alloc_old _ _ _ (by dsimp only;omega)];exact x1,by rw [World.frozen?_alloc_old _ _ _ (by dsimp only;omega)];exact x2,fun v a1 a2=>(x3 v a1 a2).mono hs⟩
 ·intro b' n t B O N g e
  rcases upd_inv e with ⟨rfl,_⟩ | ⟨hne,e2⟩
  ·rcases hc _ g with ⟨_,_,e3,_⟩ | ⟨_,_,_,_,_,_,_,e3,_⟩<;>cases e3
  ·obtain ⟨d1,d2⟩:=h.rom _ _ _ _ _ _ g e2;refine ⟨d1,fun i y hi hy=>⟨(d2 i y hi hy).1,?_⟩⟩;rw [World.cell?_alloc_old _ _ _ (by dsimp only;omega)];exact (d2 i y hi hy).2
 ·intro b' es cc B O N g e
  rcases upd_inv e with ⟨rfl,e2⟩ | ⟨hne,e2⟩
  ·simp only [Prod.mk.injEq] at e2;obtain ⟨rfl,rfl,rfl⟩:=e2
   rcases hc _ g with ⟨_,_,e3,e4⟩ | ⟨_,_,_,_,_,_,_,e3,_⟩
   ·injection e3 with e5 e6;subst e5 e6;exact ⟨hsz,rfl,by rw [new,e4]⟩
   ·cases e3
  ·obtain ⟨d1,d2,d3⟩:=h.mp _ _ _ _ _ _ g e2;exact ⟨d1,d2,by rw [Below.heap_alloc _ _ _ (old e2)];exact d3⟩
 ·intro b' m s k p B O N g e
  rcases upd_inv e with ⟨rfl,e2⟩ | ⟨hne,e2⟩
  ·simp only [Prod.mk.injEq] at e2;obtain ⟨rfl,rfl,rfl⟩:=e2
   rcases hc _ g with ⟨_,_,e3,e4⟩ | ⟨m',s',k',p',mB,mO,mN,e3,e4,e5⟩
   ·cases e3
   ·injection e3 with e6 e7 e8 e9;subst e6 e7 e8 e9;exact ⟨hsz,rfl,mB,mO,mN,hs _ _ e4,by rw [new,e5]⟩
  ·obtain ⟨d1,d2,mB,mO,mN,d3,d4⟩:=h.it _ _ _ _ _ _ _ _ g e2;exact ⟨d1,d2,mB,mO,mN,hs _ _ d3,by rw [Below.heap_alloc _ _ _ (old e2)];exact d4⟩
 ·intro b1 n1 t1 b2 n2 t2 B O1 N1 O2 N2 j1 j2 g1 g2 e1 e2 h1 h2 he
  rcases upd_inv e1 with ⟨rfl,a1⟩ | ⟨_,a1⟩<;>rcases upd_inv e2 with ⟨rfl,a2⟩ | ⟨_,a2⟩
  ·rfl
  ·have:=old a2;simp only [Prod.mk.injEq] at a1;omega
  ·have:=old a1;simp only [Prod.mk.injEq] at a2;omega
  ·exact h.ap _ _ _ _ _ _ _ _ _ _ _ _ _ g1 g2 a1 a2 h1 h2 he
 ·intro b1 x1 b2 x2 B O1 N1 O2 N2 g1 g2 k1 k2 e1 e2
  rcases upd_inv e1 with ⟨rfl,a1⟩ | ⟨_,a1⟩<;>rcases upd_inv e2 with ⟨rfl,a2⟩ | ⟨_,a2⟩
  ·rfl
  ·have:=old a2;simp only [Prod.mk.injEq] at a1;omega
  ·have:=old a1;simp only [Prod.mk.injEq] at a2;omega
  ·exact h.apo _ _ _ _ _ _ _ _ _ g1 g2 k1 k2 a1 a2
 ·intro b' B O N e
  rcases upd_inv e with ⟨_,a⟩ | ⟨_,a⟩
  ·simp only [Prod.mk.injEq] at a;simp;omega
  ·have:=old a;simp;omega
theorem MR.setObj (h:MR w0 ρ M w) {b B O N:Nat} {x0 x:Blk} {o:Obj} (hm:M.bs.get b=some x0) (hb:ρ b=some (B,O,N)) (k0:(∃ es c,x0=.mp es c)∨(∃ m s k p,x0=.it m s k p))
  (hc:(∃ es c,x=.mp es c∧o=.map es c)∨∃ m s k p mB mO mN,x=.it m s k p∧ρ m=some (mB,mO,mN)∧o=.mapIter (some mB) s k p) :
  MR w0 ρ (M.put b x) { w with heap:=w.heap.setIfInBounds B o }:=by
 have hB:w0.heap.size≤B∧O=0∧∃ y,w.heap[B]?=some y∧∀ c e f,y≠.cells c e f:=by
  rcases k0 with ⟨es,c,rfl⟩ | ⟨m,s,k,p,rfl⟩
  ·obtain ⟨a1,a2,a3⟩:=h.mp _ _ _ _ _ _ hm hb;exact ⟨a1,a2,_,a3,by simp⟩
  ·obtain ⟨a1,a2,mB,_,_,_,a3⟩:=h.it _ _ _ _ _ _ _ _ hm hb;exact ⟨a1,a2,_,a3,by simp⟩
 obtain ⟨hB1,hB2,y,hy,hyc⟩:=hB;have hlt:B<w.heap.size:=h.lim _ _ _ _ hb;have oth:∀ k,k≠B→(w.heap.setIfInBounds B o)[k]?=w.heap[k]?:=fun k hk=>Array.getElem?_setIfInBounds_ne (Ne.symm hk);have oc:∀ c e f,o≠.cells c e f:=by rcases hc with ⟨_,_,_,rfl⟩ | ⟨_,_,_,_,_,_,_,_,_,rfl⟩<;>simp
 have ec:∀ a,World.cell? { w with heap:=w.heap.setIfInBounds B o } a=w.cell? a:=fun a=>by
  simp only [World.cell?]
  by_cases e:a.block=B
  ·rw [e,hy,Array.getElem?_setIfInBounds_self_of_lt hlt]
   cases o<;>cases y<;>first | rfl | exact absurd rfl (oc _ _ _) | exact absurd rfl (hyc _ _ _)
  ·rw [oth _ e]
 have ef:∀ a,World.frozen? { w with heap:=w.heap.setIfInBounds B o } a=w.frozen? a:=fun a=>by
  simp only [World.frozen?]
  by_cases e:a.block=B
  ·rw [e,hy,Array.getElem?_setIfInBounds_self_of_lt hlt]
   cases o<;>cases y<;>first | rfl | exact absurd rfl (oc _ _ _) | exact absurd rfl (hyc _ _ _)
  ·rw [oth _ e]
 have ox:(∃ es c,x=.mp es c)∨(∃ m s k p,x=.it m s k p):=by rcases hc with ⟨_,_,rfl,_⟩ | ⟨_,_,_,_,_,_,_,rfl,_⟩<;>simp
 have nob:∀ b' x' B' O' N',M.bs.get b'=some x'→(∃ es c,x'=.mp es c)∨(∃ m s k p,x'=.it m s k p)→ρ b'=some (B',O',N')→b'≠b→B'≠B:=fun b' x' B' O' N' g k e hne hBB=>by
  subst hBB;exact hne (h.apo _ _ _ _ _ _ _ _ _ g hm k k0 e hb)
 refine ⟨⟨h.below.os,h.below.tape,h.below.output,by simpa using h.below.size,fun i hi=>by rw [oth i (by omega)];exact h.below.block i hi⟩,h.fresh,?_,?_,?_,?_,?_,?_,by simpa using h.lim⟩
 ·intro b' n t B' O' N' g e;simp only [ec,ef]
  rcases Mem.get_put g with ⟨_,e2⟩ | ⟨_,e2⟩
  ·rw [← e2] at ox;rcases ox with ⟨_,_,e3⟩ | ⟨_,_,_,_,e3⟩<;>cases e3
  ·exact h.cel _ _ _ _ _ _ e2 e
 ·intro b' n t B' O' N' g e;simp only [ec]
  rcases Mem.get_put g with ⟨_,e2⟩ | ⟨_,e2⟩
  ·rw [← e2] at ox;rcases ox with ⟨_,_,e3⟩ | ⟨_,_,_,_,e3⟩<;>cases e3
  ·exact h.rom _ _ _ _ _ _ e2 e
 ·intro b' es c B' O' N' g e
  rcases Mem.get_put g with ⟨rfl,e2⟩ | ⟨hne,e2⟩
  ·rw [hb] at e;simp only [Option.some.injEq,Prod.mk.injEq] at e;obtain ⟨rfl,rfl,rfl⟩:=e
   rcases hc with ⟨es',c',e3,e4⟩ | ⟨_,_,_,_,_,_,_,e3,_⟩
   ·rw [e3] at e2;injection e2 with e5 e6;subst e5 e6;exact ⟨hB1,hB2,by rw [Array.getElem?_setIfInBounds_self_of_lt hlt,e4]⟩
   ·rw [e3] at e2;cases e2
  ·obtain ⟨d1,d2,d3⟩:=h.mp _ _ _ _ _ _ e2 e;exact ⟨d1,d2,by rw [oth _ (nob _ _ _ _ _ e2 (.inl ⟨_,_,rfl⟩) e hne)];exact d3⟩
 ·intro b' m s k p B' O' N' g e
  rcases Mem.get_put g with ⟨rfl,e2⟩ | ⟨hne,e2⟩
  ·rw [hb] at e;simp only [Option.some.injEq,Prod.mk.injEq] at e;obtain ⟨rfl,rfl,rfl⟩:=e
   rcases hc with ⟨es',c',e3,e4⟩ | ⟨m',s',k',p',mB,mO,mN,e3,e4,e5⟩
   ·rw [e3] at e2;cases e2
   ·rw [e3] at e2;injection e2 with e6 e7 e8 e9;subst e6 e7 e8 e9;exact ⟨hB1,hB2,mB,mO,mN,e4,by rw [Array.getElem?_setIfInBounds_self_of_lt hlt,e5]⟩
  ·obtain ⟨d1,d2,mB,mO,mN,d3,d4⟩:=h.it _ _ _ _ _ _ _ _ e2 e;exact ⟨d1,d2,mB,mO,mN,d3,by rw [oth _ (nob _ _ _ _ _ e2 (.inr ⟨_,_,_,_,rfl⟩) e hne)];exact d4⟩
 ·intro b1 n1 t1 b2 n2 t2 B' O1 N1 O2 N2 j1 j2 g1 g2;have k:∀ {b' n t},(M.put b x).bs.get b'=some (.cells n t)→M.bs.get b'=some (.cells n t):=fun g=>by
   rcases Mem.get_put g with ⟨_,e2⟩ | ⟨_,e2⟩
   ·rw [← e2] at ox;rcases ox with ⟨_,_,e3⟩ | ⟨_,_,_,_,e3⟩<;>cases e3
   ·exact e2
  exact h.ap _ _ _ _ _ _ _ _ _ _ _ _ _ (k g1) (k g2)
 ·intro b1 x1 b2 x2 B' O1 N1 O2 N2 g1 g2 k1 k2 e1 e2;have k:∀ {b' x'},(M.put b x).bs.get b'=some x'→(∃ es c,x'=.mp es c)∨(∃ m s k p,x'=.it m s k p)→∃ x'',M.bs.get b'=some x''∧((∃ es c,x''=.mp es c)∨(∃ m s k p,x''=.it m s k p)):=fun g k=>by
   rcases Mem.get_put g with ⟨rfl,_⟩ | ⟨_,e2⟩
   ·exact ⟨x0,hm,k0⟩
   ·exact ⟨_,e2,k⟩
  obtain ⟨y1,a1,a2⟩:=k g1 k1;obtain ⟨y2,a3,a4⟩:=k g2 k2;exact h.apo _ _ _ _ _ _ _ _ _ a1 a3 a2 a4 e1 e2
theorem MR.fork (h:MR w0 ρ M w) {b n n' B O N o:Nat} {t t':T Value} (hm:M.bs.get b=some (.cells n t)) (hb:ρ b=some (B,O,N)) (ht:Turn w0 w w' B O N) (ho:o≤N) (hn:n'≤N-o)
  (hin:∀ j,j<N-o→∃ v',w'.cell? ⟨B,O+o+j,none⟩=some v'∧∀ v,j<n'→t'.get j=some v→SR ρ v v') :
  MR w0 (upd ρ M.nx (B,O+o,N-o)) ⟨((M.put b .dead).put M.nx (.cells n' t')).bs,M.nx+1⟩ w':=by
 have hz:ρ M.nx=none:=h.fresh _ (Nat.le_refl _);have hs:=upd_sub (x:=(B,O+o,N-o)) hz;obtain ⟨c1,c2,c3⟩:=h.cel _ _ _ _ _ _ hm hb;have kp:∀ {j y},((M.put b .dead).put M.nx (.cells n' t')).bs.get j=some y→(j=M.nx∧y=.cells n' t')∨(j≠M.nx∧((j=b∧y=.dead)∨(j≠b∧M.bs.get j=some y))):=fun {j y} e=>by
  rcases Mem.get_put e with ⟨e1,e2⟩ | ⟨e1,e2⟩
  ·exact .inl ⟨e1,e2⟩
  ·exact .inr ⟨e1,Mem.get_put e2⟩
 refine ⟨ht.below,fun j hj=>?_,?_,?_,?_,?_,?_,?_,?_⟩
 ·dsimp only at hj;unfold upd;rw [if_neg (by omega)];exact h.fresh j (by omega)
 ·intro b' n'' t'' B' O' N' g e
  rcases kp g with ⟨rfl,e2⟩ | ⟨hne,⟨_,e2⟩ | ⟨hne2,e2⟩⟩
  ·injection e2 with e3 e4;subst e3 e4
   unfold upd at e;rw [if_pos rfl] at e;simp only [Option.some.injEq,Prod.mk.injEq] at e;obtain ⟨rfl,rfl,rfl⟩:=e;refine ⟨hn,c2,fun j hj=>?_⟩;obtain ⟨v',a1,a2⟩:=hin j hj;obtain ⟨_,_,a3,_⟩:=c3 (o+j) (by omega);exact ⟨v',a1,by rw [ht.fro,Nat.add_assoc];exact a3,fun v x1 x2=>(a2 v x1 x2).mono hs⟩
  ·cases e2
  ·rcases upd_inv e with ⟨e3,_⟩ | ⟨_,e3⟩
   ·exact absurd e3 hne
   ·obtain ⟨d1,d2,d3⟩:=h.cel _ _ _ _ _ _ e2 e3;refine ⟨d1,d2,fun i hi=>?_⟩;obtain ⟨x,x1,x2,x3⟩:=d3 i hi;refine ⟨x,?_,by rw [ht.fro];exact x2,fun v a1 a2=>(x3 v a1 a2).mono hs⟩;rw [ht.cell _ rfl ?_]; · exact x1
    intro a;dsimp only at a ⊢;subst a
    by_cases hlt:O'+i<O∨O+N≤O'+i
    ·exact hlt
    ·exact absurd (h.ap _ _ _ _ _ _ _ _ _ _ _ i (O'+i-O) e2 hm e3 hb hi (by omega) (by omega)) hne2
 ·intro b' n'' t'' B' O' N' g e
  rcases kp g with ⟨_,e2⟩ | ⟨hne,⟨_,e2⟩ | ⟨_,e2⟩⟩
  ·cases e2
  ·cases e2
  ·rcases upd_inv e with ⟨e3,_⟩ | ⟨_,e3⟩
   ·exact absurd e3 hne
   ·obtain ⟨d1,d2⟩:=h.rom _ _ _ _ _ _ e2 e3;refine ⟨d1,fun i y hi hy=>⟨(d2 i y hi hy).1,?_⟩⟩;rw [ht.cell _ rfl (by dsimp only;omega)];exact (d2 i y hi hy).2
 ·intro b' es c B' O' N' g e
  rcases kp g with ⟨_,e2⟩ | ⟨hne,⟨_,e2⟩ | ⟨_,e2⟩⟩
  ·cases e2
  ·cases e2
  ·rcases upd_inv e with ⟨e3,_⟩ | ⟨_,e3⟩
   ·exact absurd e3 hne
   ·obtain ⟨d1,d2,d3⟩:=h.mp _ _ _ _ _ _ e2 e3;exact ⟨d1,d2,ht.obj _ _ (by simp) d3⟩
 ·intro b' m s k p B' O' N' g e
  rcases kp g with ⟨_,e2⟩ | ⟨hne,⟨_,e2⟩ | ⟨_,e2⟩⟩
  ·cases e2
  ·cases e2
  ·rcases upd_inv e with ⟨e3,_⟩ | ⟨_,e3⟩
   ·exact absurd e3 hne
   ·obtain ⟨d1,d2,mB,mO,mN,d3,d4⟩:=h.it _ _ _ _ _ _ _ _ e2 e3;exact ⟨d1,d2,mB,mO,mN,hs _ _ d3,ht.obj _ _ (by simp) d4⟩
 ·intro b1 n1 t1 b2 n2 t2 B' O1 N1 O2 N2 j1 j2 g1 g2 e1 e2 h1 h2 he;have key:∀ {b' n t B' O' N' j'},((M.put b .dead).put M.nx (.cells n' t')).bs.get b'=some (.cells n t)→upd ρ M.nx (B,O+o,N-o) b'=some (B',O',N')→j'<N' →
    (b'=M.nx∧B'=B∧∃ i,i<N∧O'+j'=O+i)∨(b'≠b∧∃ n t,M.bs.get b'=some (.cells n t)∧ρ b'=some (B',O',N')):=fun {b' n t B' O' N' j'} g e hj=>by
   rcases kp g with ⟨rfl,e2⟩ | ⟨hne,⟨_,e2⟩ | ⟨hne2,e2⟩⟩
   ·unfold upd at e;rw [if_pos rfl] at e;simp only [Option.some.injEq,Prod.mk.injEq] at e;obtain ⟨rfl,rfl,rfl⟩:=e;exact .inl ⟨rfl,rfl,o+j',by omega,by omega⟩
   ·cases e2
   ·rcases upd_inv e with ⟨e3,_⟩ | ⟨_,e3⟩
    ·exact absurd e3 hne
    ·exact .inr ⟨hne2,_,_,e2,e3⟩
  rcases key g1 e1 h1 with ⟨r1,r2,i,r3,r4⟩ | ⟨r1,_,_,r2,r3⟩<;>rcases key g2 e2 h2 with ⟨s1,s2,k,s3,s4⟩ | ⟨s1,_,_,s2,s3⟩
  ·rw [r1,s1]
  ·subst r2;exact absurd (h.ap _ _ _ _ _ _ _ _ _ _ _ _ _ hm s2 hb s3 r3 h2 (by omega)) (Ne.symm s1)
  ·subst s2;exact absurd (h.ap _ _ _ _ _ _ _ _ _ _ _ _ _ r2 hm r3 hb h1 s3 (by omega)) r1
  ·exact h.ap _ _ _ _ _ _ _ _ _ _ _ _ _ r2 s2 r3 s3 h1 h2 he
 ·intro b1 x1 b2 x2 B' O1 N1 O2 N2 g1 g2 k1 k2 e1 e2;have key:∀ {b' x B' O' N'},((M.put b .dead).put M.nx (.cells n' t')).bs.get b'=some x→((∃ es c,x=.mp es c)∨∃ m s k p,x=.it m s k p)→upd ρ M.nx (B,O+o,N-o) b'=some (B',O',N')→M.bs.get b'=some x∧ρ b'=some (B',O',N'):=fun {b' x B' O' N'} g k e=>by
   rcases kp g with ⟨_,e2⟩ | ⟨hne,⟨_,e2⟩ | ⟨_,e2⟩⟩
   ·rw [e2] at k;rcases k with ⟨_,_,e3⟩ | ⟨_,_,_,_,e3⟩<;>cases e3
   ·rw [e2] at k;rcases k with ⟨_,_,e3⟩ | ⟨_,_,_,_,e3⟩<;>cases e3
   ·rcases upd_inv e with ⟨e3,_⟩ | ⟨_,e3⟩
    ·exact absurd e3 hne
    ·exact ⟨e2,e3⟩
  obtain ⟨a1,a2⟩:=key g1 k1 e1;obtain ⟨a3,a4⟩:=key g2 k2 e2;exact h.apo _ _ _ _ _ _ _ _ _ a1 a3 k1 k2 a2 a4
 ·intro b' B' O' N' e;rw [ht.size]
  rcases upd_inv e with ⟨_,a⟩ | ⟨_,a⟩
  ·simp only [Prod.mk.injEq] at a;rw [a.1];exact h.lim _ _ _ _ hb
  ·exact h.lim _ _ _ _ a
end
end
noncomputable section
def prun {α:Type} (P:Program):Nat→Sem α→Option α
 | _,.pure a=>some a
 | n+1,.program k=>prun P n (k P)
 | _,_=>none
theorem prun_run {α:Type} {P:Program}:∀ (n:Nat) (s:Sem α) (a:α),prun P n s=some a→∀ w,s.run P w=.ok a w:=by
 intro n
 induction n with
 | zero=>intro s a h w;cases s<;>simp [prun] at h;subst h;rfl
 | succ n ih =>
  intro s a h w
  cases s<;>simp [prun] at h
  ·subst h;rfl
  ·exact ih _ _ h w
def prp (P:Program) (s:Sem Value):Option Value :=
 match prun P 200 s with
 | none=>none
 | some v=>match pl v with
  | true=>some v
  | false=>none
theorem prp_run {P:Program} {s:Sem Value} {v:Value} (h:prp P s=some v):pl v=true∧∀ w,s.run P w=.ok v w:=by
 unfold prp at h
 split at h
 ·cases h
 ·rename_i u hu
  split at h
  ·rename_i hp
   simp only [Option.some.injEq] at h;subst h;exact ⟨hp,prun_run _ _ _ hu⟩
  ·cases h
section
variable {ρ:Rho} {b:Value}
theorem VR.ptr_inv {B o:Nat} (h:VR ρ (.pointer (some ⟨B,o,none⟩)) b):∃ C O N,ρ B=some (C,O,N)∧b=.pointer (some ⟨C,O+o,none⟩):=by
 cases h with
 | one h=>cases h with
  | sc h=>cases h with
   | ptr h=>exact ⟨_,_,_,h,rfl⟩
theorem VR.bool_inv {x:Bool} (h:VR ρ (.bool x) b):b=.bool x:=VR.eq1 rfl h
theorem VR.int_inv {k:IntKind} {n:Int} (h:VR ρ (.int k n) b):b=.int k n:=VR.eq1 rfl h
theorem VR.agg_inv {xs:Array Value} (h:VR ρ (.agg xs) b):∃ ys:Array Value,b=.agg ys∧LR (SR ρ) xs.toList ys.toList:=by
 cases h with
 | one h=>cases h with
  | sc h=>cases h
  | agg h=>exact ⟨_,rfl,h⟩
theorem VR.tup_inv {xs:Array Value} (h:VR ρ (.tuple xs) b):∃ ys:Array Value,b=.tuple ys∧LR (V1 ρ) xs.toList ys.toList:=by
 cases h with
 | one h=>cases h with
  | sc h=>cases h
 | tup h=>exact ⟨_,rfl,h⟩
theorem VR.fn_inv {f:FuncId} {xs:Array Value} (h:VR ρ (.func (.func f) #[] xs) b):∃ ys:Array Value,b=.func (.func f) #[] ys∧LR (SR ρ) xs.toList ys.toList:=by
 cases h with
 | one h=>cases h with
  | sc h=>cases h
  | fn h=>exact ⟨_,rfl,h⟩
theorem VR.sl_inv {B o n c:Nat} (h:VR ρ (.slice (some ⟨B,o,none⟩) n c) b) (hn:0<n):∃ C O N c',ρ B=some (C,O,N)∧b=.slice (some ⟨C,O+o,none⟩) n c':=by
 cases h with
 | one h=>cases h with
  | sc h=>cases h with
   | sl h hc=>exact ⟨_,_,_,_,h,rfl⟩
   | su h _ _ _ _=>exact ⟨_,_,_,_,h,rfl⟩
   | s0=>omega
theorem VR.sl_len {p:Option Addr} {n c:Nat} (h:VR ρ (.slice p n c) b):∃ p' c',b=.slice p' n c'∧p'.isNone=p.isNone:=by
 cases h with
 | one h=>cases h with
  | sc h=>cases h<;>exact ⟨_,_,rfl,rfl⟩
theorem VR.map_inv {B:Nat} (h:VR ρ (.map (some B)) b):∃ C O N,ρ B=some (C,O,N)∧b=.map (some C):=by
 cases h with
 | one h=>cases h with
  | sc h=>cases h with
   | map h=>exact ⟨_,_,_,h,rfl⟩
end
def isAggT (P:Program) (t:TypeId):Option Bool :=
 match P.underlying t with
 | some (.struct _)=>some true
 | some (.array _ _)=>some true
 | some _=>some false
 | none=>none
def szOf (P : Program) (t : TypeId) : Option Nat:=(P.info? t).map (·.size)
theorem run_szOf {P:Program} {t:TypeId} {n:Nat} (h:szOf P t=some n) (w:World):(sizeOf t).run P w=.ok n w:=by
 unfold szOf at h
 cases e:P.info? t with
 | none=>rw [e] at h;cases h
 | some i=>rw [e] at h;simp only [Option.map_some,Option.some.injEq] at h;simp [sizeOf,typeInfo,e,h]
theorem run_isAggT {P:Program} {t:TypeId} {x:Bool} (h:isAggT P t=some x) (w:World):(isAgg t).run P w=.ok x w:=by
 unfold isAggT at h
 split at h
 ·rename_i e;cases h;simp [isAgg,run_underlying e]
 ·rename_i e;cases h;simp [isAgg,run_underlying e]
 ·rename_i d h1 h2 e
  cases h
  simp only [isAgg,Sem.run_bind,run_underlying e,Result.andThen_ok]
  rfl
 ·cases h
def evPart (P:Program) (t:TypeId) (cs:Array Value) (off:Nat):Option Value :=
 match isAggT P t,szOf P t with
 | some true,some n=>some (.agg (cs.extract off (off+n)))
 | some false,_=>cs[off]?
 | _,_=>none
theorem evPart_run {P:Program} {t:TypeId} {xs ys:Array Value} {off:Nat} {v:Value} {ρ:Rho} (h:evPart P t xs off=some v) (hl:LR (SR ρ) xs.toList ys.toList) :
  ∃ v',V1 ρ v v'∧∀ w,(part t ys off).run P w=.ok v' w:=by
 unfold evPart at h
 split at h
 ·rename_i n h1 h2
  simp only [Option.some.injEq] at h;subst h;refine ⟨.agg (ys.extract off (off+n)),.agg ?_,fun w=>by simp [part,run_isAggT h1,run_szOf h2]⟩;simp only [Array.toList_extract,List.extract_eq_take_drop];exact (hl.drop _).take _
 ·rename_i h1
  have e:xs.toList[off]?=some v:=by simpa using h
  obtain ⟨v',e1,e2⟩:=hl.get e;refine ⟨v',.sc e2,fun w=>?_⟩;have e3:ys[off]?=some v':=by simpa using e1
  simp [part,run_isAggT h1,e3]
 ·cases h
def ptrV (b o:Nat):Value:=.pointer (some ⟨b,o,none⟩)
def evNil (P:Program) (op:BinOp) (t:TypeId) (u v:Value):Option Value :=
 match u,v,P.underlying t with
 | .pointer (some _),.pointer none,some (.pointer _)=>match op with
  | .eql=>some (.bool false)
  | .neq=>some (.bool true)
  | _=>none
 | .slice (some _) _ _,.slice none 0 0,some (.slice _)=>match op with
  | .eql=>some (.bool false)
  | .neq=>some (.bool true)
  | _=>none
 | _,_,_=>none
def inRange (i:Int) (n:Nat):Bool :=
 match i with
 | .ofNat k=>Nat.blt k n
 | _=>false
theorem inRange_iff {i:Int} {n:Nat} (h:inRange i n=true):0≤i∧i<n∧i.toNat<n:=by
 unfold inRange at h
 split at h
 ·rename_i k
  have:k<n:=by simp [Nat.blt] at h;omega
  simp;omega
 ·cases h
def evIndexAddr (P:Program) (t:TypeId) (x:Value) (i:Int):Option Value :=
 match P.underlying t,x with
 | some (.array n e),.pointer (some ⟨b,o,none⟩)=>match inRange i n,szOf P e with
  | true,some z=>some (ptrV b (o+i.toNat*z))
  | _,_=>none
 | some (.slice e),.slice (some ⟨b,o,none⟩) n _=>match inRange i n,szOf P e with
  | true,some z=>some (ptrV b (o+i.toNat*z))
  | _,_=>none
 | _,_=>none
def evScal:List Value→Bool
 | []=>true
 | v::l=>match v with
  | .agg _=>false
  | .tuple _=>false
  | .func _ _ _=>false
  | _=>evScal l
def evAll (ev:Operand→Option Value):List Operand→Option (List Value)
 | []=>some []
 | x::l=>match ev x,evAll ev l with
  | some v,some r=>some (v::r)
  | _,_=>none
def evFill (place:Nat→Option (Nat×Nat)) (cells:List Value):List (Nat×List Value)→Option (List Value)
 | []=>some cells
 | (i,vs)::rest=>match place i with
  | none=>none
  | some (off,size)=>match Nat.beq vs.length size && Nat.ble (off+size) cells.length with
   | true=>evFill place (cells.take off++vs++cells.drop (off+size)) rest
   | false=>none
def evParts (ev:Operand→Option Value):List (Nat×Operand)→Option (List (Nat×List Value))
 | []=>some []
 | (i,x)::l=>match ev x with
  | none=>none
  | some v=>match cellsOf v,evParts ev l with
   | some c,some r=>some ((i,c)::r)
   | _,_=>none
def zeroOf (P:Program) (t:TypeId):Option (List Value) :=
 match (P.info? t).bind (·.zero) with
 | some v=>match pl v with
  | true=>some v.cells.toList
  | false=>none
 | none=>none
def placesOf (P:Program):List Field→Option (List (Nat×Nat))
 | []=>some []
 | f::l=>match szOf P f.type,placesOf P l with
  | some z,some r=>some ((f.offset,z)::r)
  | _,_=>none
def evBuild (P:Program) (t:TypeId) (parts:List (Nat×List Value)):Option Value :=
 match zeroOf P t,P.underlying t with
 | some z,some (.struct fs)=>match placesOf P fs.toList with
  | some pl=>match evFill (fun i=>pl[i]?) z parts with
   | some cs=>some (.agg cs.toArray)
   | none=>none
  | none=>none
 | some z,some (.array _ e)=>match szOf P e with
  | some s=>match evFill (fun i=>some (i*s,s)) z parts with
   | some cs=>some (.agg cs.toArray)
   | none=>none
  | none=>none
 | _,_=>none
def evFn:Fn→Option FuncId
 | .func f=>some f
 | _=>none
def evBI (P:Program) (b:Builtin) (t:TypeId) (ts:Array TypeId) (ty:TypeId) (l:List Value):Option Value :=
 match b with
 | .len=>match P.underlying t,l with
  | some (.slice _),[.slice _ n _]=>some (goInt n)
  | some (.array n _),[_]=>some (goInt n)
  | _,_=>none
 | .min=>match all1 l with
  | true=>prp P (Builtin.min_ ts ty l.toArray)
  | false=>none
 | .max=>match all1 l with
  | true=>prp P (Builtin.max_ ts ty l.toArray)
  | false=>none
 | _=>none
def ePick (ev:Operand→Option Value) (c a b:Operand):Option Value :=
 match ev c with
 | some (.bool true)=>ev a
 | some (.bool false)=>ev b
 | _=>none
def kN:IntKind→Nat
 | .i8=>0
 | .i16=>1
 | .i32=>2
 | .i64=>3
 | .u8=>4
 | .u16=>5
 | .u32=>6
 | .u64=>7
def cmpI (op:BinOp) (x y:Int):Option Bool :=
 match op with
 | .eql=>some (x==y)
 | .neq=>some (x != y)
 | .lss=>some (decide (x<y))
 | .leq=>some (decide (x≤y))
 | .gtr=>some (decide (x > y))
 | .geq=>some (decide (x ≥ y))
 | _=>none
def binSlow (P:Program) (op:BinOp) (t:TypeId) (x y:Operand) (u v:Value):Option Value :=
 match pl u && pl v with
 | true=>prp P (do eqGuard op t x y u v;binOp op t u v)
 | false=>evNil P op t u v
def binI (P:Program) (op:BinOp) (t:TypeId) (x y:Operand) (j:IntKind) (a:Int) (k:IntKind) (b:Int):Option Value :=
 match Nat.beq (kN j) (kN k) with
 | true=>match cmpI op a b with
  | some r=>some (.bool r)
  | none=>match op with
   | .add=>some (.int j (j.wrap (a+b)))
   | .sub=>some (.int j (j.wrap (a-b)))
   | _=>binSlow P op t x y (.int j a) (.int k b)
 | false=>binSlow P op t x y (.int j a) (.int k b)
def eBin2 (P:Program) (op:BinOp) (t:TypeId) (x y:Operand) (u v:Value):Option Value :=
 match u with
 | .int j a=>match v with
  | .int k b=>binI P op t x y j a k b
  | _=>binSlow P op t x y u v
 | _=>binSlow P op t x y u v
def eBin (P:Program) (ev:Operand→Option Value) (op:BinOp) (t:TypeId) (x y:Operand):Option Value :=
 match ev x,ev y with
 | some u,some v=>eBin2 P op t x y u v
 | _,_=>none
def eUn (P:Program) (ev:Operand→Option Value) (op:UnOp) (x:Operand):Option Value :=
 match ev x with
 | some u=>match pl u with
  | true=>prp P (Op.unary op u)
  | false=>none
 | none=>none
def eConv (P:Program) (ev:Operand→Option Value) (s d:TypeId) (x:Operand):Option Value :=
 match ev x with
 | some u=>match pl u with
  | true=>prp P (convert s d u)
  | false=>none
 | none=>none
def eBuild (P:Program) (ev:Operand→Option Value) (t:TypeId) (parts:Array (Nat×Operand)):Option Value :=
 match evParts ev parts.toList with
 | some ps=>evBuild P t ps
 | none=>none
def eNilC (ev:Operand→Option Value) (x:Operand):Option Value :=
 match ev x with
 | some (.pointer (some ⟨b,o,none⟩))=>some (ptrV b o)
 | _=>none
def fOff (P:Program) (s:TypeId) (f:Nat):Option Nat :=
 match P.underlying s with
 | some (.struct fs)=>match fs[f]? with
  | some fd=>match szOf P fd.type with
   | some (_+1)=>some fd.offset
   | _=>none
  | none=>none
 | _=>none
def eFA (P:Program) (ev:Operand→Option Value) (s:TypeId) (x:Operand) (f:Nat):Option Value :=
 match fOff P s f,ev x with
 | some d,some (.pointer (some ⟨b,o,none⟩))=>some (ptrV b (o+d))
 | _,_=>none
def eF (P:Program) (ev:Operand→Option Value) (t:TypeId) (x:Operand) (f:Nat):Option Value :=
 match P.underlying t,ev x with
 | some (.struct fs),some (.agg cs)=>match fs[f]? with
  | some fd=>evPart P fd.type cs fd.offset
  | none=>none
 | _,_=>none
def eIA (P:Program) (ev:Operand→Option Value) (t:TypeId) (x ix:Operand):Option Value :=
 match ev ix,ev x with
 | some (.int _ i),some u=>evIndexAddr P t u i
 | _,_=>none
def eI (P:Program) (ev:Operand→Option Value) (t:TypeId) (x ix:Operand):Option Value :=
 match ev ix,ev x,P.underlying t with
 | some (.int _ i),some (.agg cs),some (.array n e)=>match inRange i n,szOf P e with
  | true,some z=>evPart P e cs (i.toNat*z)
  | _,_=>none
 | _,_,_=>none
def eX (ev:Operand→Option Value) (x:Operand) (i:Nat):Option Value :=
 match ev x with
 | some (.tuple vs)=>vs[i]?
 | _=>none
def eMF (ev:Operand→Option Value) (fn:Fn) (first captured:Array Operand):Option Value :=
 match evFn fn with
 | some f=>match first.toList,evAll ev captured.toList with
  | [],some l=>match evScal l with
   | true=>some (.func (.func f) #[] l.toArray)
   | false=>none
  | _,_=>none
 | none=>none
def eB (P:Program) (ev:Operand→Option Value) (c:Call) (ty:TypeId):Option Value :=
 match c.callee with
 | .builtin b=>match c.argTypes.toList,evAll ev c.args.toList with
  | t::_,some l=>evBI P b t c.argTypes ty l
  | _,_=>none
 | _=>none
def evP (P:Program) (ev:Operand→Option Value) (o:Oper):Option Value :=
 match o.op with
 | .move x=>ev x
 | .assign x=>ev x
 | .pick c a b=>ePick ev c a b
 | .binOp op t x y _=>eBin P ev op t x y
 | .unOp op _ x=>eUn P ev op x
 | .convert s d x=>eConv P ev s d x
 | .build t parts=>eBuild P ev t parts
 | .nilCheck x=>eNilC ev x
 | .fieldAddr s x f=>eFA P ev s x f
 | .field t x f=>eF P ev t x f
 | .indexAddr t x ix=>eIA P ev t x ix
 | .index t x ix=>eI P ev t x ix
 | .extract x i=>eX ev x i
 | .makeFunc fn first captured=>eMF ev fn first captured
 | .call c=>eB P ev c o.type
 | _=>none
section
variable {P:Program} {ρ:Rho} {ev:Operand→Option Value} {ρe:Operand→Value}
theorem evAll_spec (he:∀ x u,ev x=some u→VR ρ u (ρe x)):∀ (l:List Operand) (r:List Value),evAll ev l=some r→LR (VR ρ) r (l.map ρe)
 | [],r,h=>by simp only [evAll,Option.some.injEq] at h;subst h;exact .nil
 | x::l,r,h=>by
  simp only [evAll] at h
  split at h
  ·rename_i v r' h1 h2
   simp only [Option.some.injEq] at h;subst h;exact .cons (he _ _ h1) (evAll_spec he l _ h2)
  ·cases h
theorem evScal_spec:∀ (l m:List Value),evScal l=true→LR (VR ρ) l m→LR (SR ρ) l m
 | [],_,_,.nil=>.nil
 | v::l,_,h,.cons r t=>by
  have h2:evScal l=true:=by
   unfold evScal at h
   split at h<;>first | cases h | exact h
  refine .cons ?_ (evScal_spec l _ h2 t)
  cases r with
  | one r=>cases r with
   | sc r=>exact r
   | agg r=>simp [evScal] at h
   | fn r=>simp [evScal] at h
  | tup r=>simp [evScal] at h
theorem evParts_spec (he:∀ x u,ev x=some u→VR ρ u (ρe x)):∀ (l:List (Nat×Operand)) (r:List (Nat×List Value)),evParts ev l=some r →
  LR (fun a b=>a.1=b.1∧LR (SR ρ) a.2 b.2.cells.toList) r (l.map fun (i,x)=>(i,ρe x))
 | [],r,h=>by simp only [evParts,Option.some.injEq] at h;subst h;exact .nil
 | (i,x)::l,r,h=>by
  simp only [evParts] at h
  split at h
  ·cases h
  ·rename_i v hv
   split at h
   ·rename_i c r' h1 h2
    simp only [Option.some.injEq] at h;subst h;have hx:=he _ _ hv;refine .cons ⟨rfl,?_⟩ (evParts_spec he l _ h2);show LR (SR ρ) c (ρe x).cells.toList;generalize ρe x=y at hx
    cases hx with
    | one hx=>have:=hx.cells h1;exact this
    | tup _=>simp [cellsOf] at h1
   ·cases h
theorem foldl_set (off:Nat):∀ (vs:List Value) (k:Nat) (cs:Array Value),(vs.zipIdx k).foldl (fun (cs:Array Value) (x:Value×Nat)=>cs.setIfInBounds (off+x.2) x.1) cs =
  (cs.toList.zipIdx.map fun (x:Value×Nat)=>if off+k≤x.2 then (vs[x.2-(off+k)]?).getD x.1 else x.1).toArray
 | [],k,cs=>by
  apply Array.toList_inj.1;simp only [List.zipIdx_nil,List.foldl_nil];apply List.ext_getElem?;intro i;simp only [List.getElem?_map,List.getElem?_zipIdx]
  cases cs.toList[i]?<;>simp
 | v::vs,k,cs=>by
  rw [List.zipIdx_cons,List.foldl_cons,foldl_set off vs (k+1)]
  congr 1
  apply List.ext_getElem?;intro i;simp only [List.getElem?_map,List.getElem?_zipIdx,Array.toList_setIfInBounds,List.getElem?_set,Nat.zero_add]
  by_cases e:off+k=i
  ·subst e
   by_cases hl:off+k<cs.toList.length
   ·rw [if_pos rfl,if_pos hl,List.getElem?_eq_getElem hl];simp only [Option.map_some,Nat.sub_self,List.getElem?_cons_zero,Option.getD_some,Nat.le_refl,if_true];rw [if_neg (by omega)]
   ·rw [if_pos rfl,if_neg hl,List.getElem?_eq_none (Nat.le_of_not_lt hl)]
    rfl
  ·simp only [if_neg e]
   cases hc:cs.toList[i]? with
   | none=>simp
   | some x =>
    simp only [Option.map_some]
    by_cases h1:off+(k+1)≤i
    ·rw [if_pos h1,if_pos (by omega),show i-(off+k)=(i-(off+(k+1)))+1 by omega,List.getElem?_cons_succ]
    ·rw [if_neg h1,if_neg (by omega)]
theorem evFill_spec {place place':Nat→Option (Nat×Nat)} (hp:∀ i,place' i=place i):∀ (parts:List (Nat×List Value)) (parts':List (Nat×Value)) (cells:List Value) (cells':Array Value) (r:List Value),
  LR (fun a b=>a.1=b.1∧LR (SR ρ) a.2 b.2.cells.toList) parts parts'→LR (SR ρ) cells cells'.toList→evFill place cells parts=some r →
  ∃ r',Instr.fill place' cells' parts'=some r'∧LR (SR ρ) r r'.toList
 | [],_,cells,cells',r,.nil,hc,h=>by simp only [evFill,Option.some.injEq] at h;subst h;exact ⟨cells',rfl,hc⟩
 | (i,vs)::rest,_,cells,cells',r, @LR.cons _ _ _ _ (j,v) _ rest' ⟨e,hv⟩ ht,hc,h=>by
  simp only at e hv;subst e;simp only [evFill] at h;simp only [Instr.fill,hp]
  split at h
  ·cases h
  ·rename_i off size hpl
   split at h
   ·rename_i hb
    simp only [Bool.and_eq_true,Nat.beq_eq] at hb;obtain ⟨hb1,hb2⟩:=hb;have hb2:=Nat.le_of_ble_eq_true hb2;have hl1:=hv.len;have hl2:=hc.len;simp only [Array.length_toList] at hl1 hl2;rw [hpl];dsimp only;rw [if_neg (by simp;omega)];refine evFill_spec hp rest rest' _ _ r ht ?_ h;have e2:v.cells.zipIdx.foldl (fun (cs:Array Value) (x:Value×Nat)=>cs.setIfInBounds (off+x.2) x.1) cells'=(v.cells.toList.zipIdx.foldl (fun (cs:Array Value) (x:Value×Nat)=>cs.setIfInBounds (off+x.2) x.1) cells'):=by
     rw [← Array.toList_zipIdx,Array.foldl_toList]
    show LR (SR ρ) _ (v.cells.zipIdx.foldl (fun (cs:Array Value) (x:Value×Nat)=>cs.setIfInBounds (off+x.2) x.1) cells').toList;rw [e2,foldl_set];refine LR.of_get (by simp;omega) fun k a b' e3 e4=>?_;simp only [Nat.add_zero,List.getElem?_map,List.getElem?_zipIdx,Nat.zero_add] at e4
    cases hcc:cells'.toList[k]? with
    | none=>rw [hcc] at e4;cases e4
    | some x =>
     rw [hcc] at e4;simp only [Option.map_some,Option.some.injEq] at e4
     by_cases h1:off≤k∧k<off+size
     ·rw [if_pos h1.1] at e4;have e5:(cells.take off++vs++cells.drop (off+size))[k]?=vs[k-off]?:=by
       rw [List.append_assoc,List.getElem?_append_right (by simp;omega),List.getElem?_append_left (by simp;omega)]
       congr 1;simp;omega
      rw [e5] at e3;obtain ⟨u,u1,u2⟩:=hv.get e3;rw [u1,Option.getD_some] at e4;rw [← e4];exact u2
     ·have e5:(cells.take off++vs++cells.drop (off+size))[k]?=cells[k]?:=by
       by_cases h2:k<off
       ·rw [List.append_assoc,List.getElem?_append_left (by simp;omega),List.getElem?_take_of_lt h2]
       ·rw [List.getElem?_append_right (by simp;omega),List.getElem?_drop]
        congr 1;simp;omega
      rw [e5] at e3;obtain ⟨u,u1,u2⟩:=hc.get e3;rw [hcc] at u1;simp only [Option.some.injEq] at u1;have e6:b'=x:=by
       by_cases h2:off≤k
       ·rw [if_pos h2,List.getElem?_eq_none (by simp;omega),Option.getD_none] at e4;exact e4.symm
       ·rw [if_neg h2] at e4;exact e4.symm
      rw [e6,u1];exact u2
   ·cases h
theorem zeroOf_run {t:TypeId} {z:List Value} (h:zeroOf P t=some z):∃ v:Value,v.cells.toList=z∧LR (SR ρ) z z∧(∀ w,(zeroValue t).run P w=.ok v w)∧all1 z=true∧∃ i,P.info? t=some i∧i.zero=some v:=by
 unfold zeroOf at h
 split at h
 ·rename_i v hv
  split at h
  ·rename_i hp
   simp only [Option.some.injEq] at h;subst h;have ha:all1 v.cells.toList=true:=by
    cases v<;>first | exact hp | (simp only [pl] at hp;simp [Value.cells,all1,hp])
   cases hi:P.info? t with
   | none=>rw [hi] at hv;cases hv
   | some i =>
    rw [hi] at hv;simp only [Option.bind_some] at hv;exact ⟨v,rfl,LR.refl1 ha,fun w=>by simp [zeroValue,typeInfo,hi,hv],ha,i,rfl,hv⟩
  ·cases h
 ·cases h
theorem placesOf_run:∀ (fs:List Field) (l:List (Nat×Nat)),placesOf P fs=some l→∀ w,(fs.mapM (m:=Sem) fun f=>Prod.mk f.offset <$> sizeOf f.type).run P w=.ok l w
 | [],l,h,w=>by simp only [placesOf,Option.some.injEq] at h;subst h;rfl
 | f::fs,l,h,w=>by
  simp only [placesOf] at h
  split at h
  ·rename_i z r h1 h2
   simp only [Option.some.injEq] at h;subst h;have ih:=placesOf_run fs r h2 w;simp [List.mapM_cons,run_szOf h1,ih]
  ·cases h
theorem evBuild_run {t:TypeId} {parts:List (Nat×List Value)} {parts':Array (Nat×Value)} {v:Value} (hp:LR (fun a b=>a.1=b.1∧LR (SR ρ) a.2 b.2.cells.toList) parts parts'.toList) (h:evBuild P t parts=some v) :
  ∃ v',V1 ρ v v'∧∀ w,(Instr.build t parts').run P w=.ok v' w:=by
 unfold evBuild at h
 split at h
 ·rename_i z fs h1 h2
  split at h
  ·rename_i pl h3
   split at h
   ·rename_i cs h4
    simp only [Option.some.injEq] at h;subst h;obtain ⟨yzv,z1,z2,yz3,_⟩:=zeroOf_run (ρ:=ρ) h1;obtain ⟨r',r1,r2⟩:=evFill_spec (ρ:=ρ) (place':=fun i=>pl.toArray[i]?) (fun i=>by simp) _ _ _ yzv.cells _ hp (by rw [z1];exact z2) h4;refine ⟨.agg r',.agg (by simpa using r2),fun w=>?_⟩;have hm:∀ w,(fs.mapM (m:=Sem) fun f=>Prod.mk f.offset <$> sizeOf f.type).run P w=.ok pl.toArray w:=fun w=>by
     rw [Array.mapM_eq_mapM_toList];simp [placesOf_run _ _ h3 w]
    have r1':Instr.fill (fun i=>pl[i]?) yzv.cells parts'.toList=some r':=by rw [← r1];congr 1;funext i;simp
    simp [Instr.build,yz3,run_underlying h2,hm,r1']
   ·cases h
  ·cases h
 ·rename_i z n e h1 h2
  split at h
  ·rename_i s h3
   split at h
   ·rename_i cs h4
    simp only [Option.some.injEq] at h;subst h;obtain ⟨yzv,z1,z2,yz3,_⟩:=zeroOf_run (ρ:=ρ) h1;obtain ⟨r',r1,r2⟩:=evFill_spec (ρ:=ρ) (place':=fun i=>some (i*s,s)) (fun i=>rfl) _ _ _ yzv.cells _ hp (by rw [z1];exact z2) h4;refine ⟨.agg r',.agg (by simpa using r2),fun w=>?_⟩;simp [Instr.build,yz3,run_underlying h2,run_szOf h3,r1]
   ·cases h
  ·cases h
 ·cases h
end
end
noncomputable section
section
variable {P:Program} {ρ:Rho} {ev:Operand→Option Value} {ρe:Operand→Value}
theorem eqGuard_nil1 {op:BinOp} {t:TypeId} {x y:Operand} {a b:Option Addr} (w:World):(eqGuard op t x y (.pointer a) (.pointer b)).run P w=.ok () w:=by cases op<;>rfl
theorem eqGuard_nil2 {op:BinOp} {t:TypeId} {x y:Operand} {a b:Option Addr} {n c n' c':Nat} (w:World):(eqGuard op t x y (.slice a n c) (.slice b n' c')).run P w=.ok () w:=by cases op<;>rfl
theorem evNil_run {op:BinOp} {t:TypeId} {u v u':Value} {x y:Operand} {r:Value} (h:evNil P op t u v=some r) (hu:VR ρ u u'):VR ρ r r∧∀ w,(do eqGuard op t x y u' v;binOp op t u' v:Sem Value).run P w=.ok r w:=by
 unfold evNil at h
 split at h
 ·rename_i a e ht
  have hu':∃ a',u'=.pointer (some a'):=by
   cases hu with
   | one hu=>cases hu with
    | sc hu=>cases hu;exact ⟨_,rfl⟩
  obtain ⟨a',rfl⟩:=hu';have ht':P.underlying t=some (.pointer (P.pointee t)):=by rw [ht];simp [Program.pointee,ht]
  split at h
  ·cases h;exact ⟨.one (.sc (.bool _)),fun w=>by rw [Sem.run_bind,eqGuard_nil1];exact run_eql_pointer_nil w t _ ht'⟩
  ·cases h;exact ⟨.one (.sc (.bool _)),fun w=>by rw [Sem.run_bind,eqGuard_nil1];exact run_neq_pointer_nil w t _ ht'⟩
  ·cases h
 ·rename_i a n c e ht
  have hu':∃ a' c',u'=.slice (some a') n c':=by
   cases hu with
   | one hu=>cases hu with
    | sc hu=>cases hu<;>exact ⟨_,_,rfl⟩
  obtain ⟨a',c',rfl⟩:=hu'
  split at h
  ·cases h;exact ⟨.one (.sc (.bool _)),fun w=>by
    rw [Sem.run_bind,eqGuard_nil2];show (binOp .eql t (.slice (some a') n c') (.slice none 0 0)).run P w=_;simp only [binOp];rw [Sem.run_bind,run_equal_slice_nil w t e _ _ _ ht];rfl⟩
  ·cases h;exact ⟨.one (.sc (.bool _)),fun w=>by rw [Sem.run_bind,eqGuard_nil2];exact run_neq_slice_nil w t e _ _ _ ht⟩
  ·cases h
 ·cases h
theorem evAll1_eq (he:∀ x u,ev x=some u→VR ρ u (ρe x)) {l:List Operand} {r:List Value} (h:evAll ev l=some r) (ha:all1 r=true):l.map ρe=r:=by
 have h1:=evAll_spec he _ _ h;clear h;generalize l.map ρe=m at h1
 induction h1 with
 | nil=>rfl
 | @cons a b l m h t ih =>
  have ha1:=all1_mem ha a (by simp);have ha2:all1 l=true:=by
   unfold all1 at ha
   split at ha
   ·exact ha
   ·cases ha
  have:pl a=true:=by cases a<;>first | exact ha1 | (simp [pl1] at ha1)
  rw [h.eq1 this,ih ha2]
theorem run_indexAt_ok {t e:TypeId} {x:Value} {a:Addr} {k:IntKind} {i:Int} {n z:Nat} {c:Nat} (hx:(P.underlying t=some (.array n e)∧x=.pointer (some a))∨(P.underlying t=some (.slice e)∧x=.slice (some a) n c)) (hi:inRange i n=true) (hz:szOf P e=some z) (w:World) :
  (Instr.indexAt t x (.int k i)).run P w=.ok (.pointer (some (a.add (i.toNat*z)))) w:=by
 obtain ⟨h0,h1,_⟩:=inRange_iff hi
 rcases hx with ⟨hu,rfl⟩ | ⟨hu,rfl⟩
 ·simp [Instr.indexAt,asIntOf,run_underlying hu,Instr.sureAddr,h0,h1,run_szOf hz]
 ·simp [Instr.indexAt,asIntOf,run_underlying hu,h0,h1,run_szOf hz]
theorem evIndexAddr_run {t:TypeId} {x x':Value} {i:Int} {k:IntKind} {v:Value} (h:evIndexAddr P t x i=some v) (hx:VR ρ x x'):∃ v',VR ρ v v'∧∀ w,(Instr.indexAt t x' (.int k i)).run P w=.ok v' w:=by
 unfold evIndexAddr at h
 split at h
 ·rename_i n e b o hu
  split at h
  ·rename_i z hr hz
   cases h
   obtain ⟨C,O,N,e1,rfl⟩:=hx.ptr_inv;exact ⟨_,.one (.sc (.ptr e1)),fun w=>by rw [run_indexAt_ok (c:=0) (.inl ⟨hu,rfl⟩) hr hz w,Addr.add_lit,Nat.add_assoc]⟩
  ·cases h
 ·rename_i e b o n c hu
  split at h
  ·rename_i z hr hz
   cases h
   obtain ⟨C,O,N,c',e1,rfl⟩:=hx.sl_inv (by have:=(inRange_iff hr).2.2;omega);exact ⟨_,.one (.sc (.ptr e1)),fun w=>by rw [run_indexAt_ok (.inr ⟨hu,rfl⟩) hr hz w,Addr.add_lit,Nat.add_assoc]⟩
  ·cases h
 ·cases h
theorem pl_and {u v:Value} (h:(pl u && pl v)=true):pl u=true∧pl v=true:=by simpa using h
theorem kN_inj {j k:IntKind} (h:Nat.beq (kN j) (kN k)=true):j=k:=by
 have:=Nat.eq_of_beq_eq_true h
 cases j<;>cases k<;>first | rfl | (simp [kN] at this)
theorem binSlow_run {op:BinOp} {t:TypeId} {x y:Operand} {u v r u' v':Value} (h:binSlow P op t x y u v=some r) (hu:VR ρ u u') (hv:VR ρ v v'):VR ρ r r∧∀ w,(do eqGuard op t x y u' v';binOp op t u' v':Sem Value).run P w=.ok r w:=by
 unfold binSlow at h
 split at h
 ·rename_i hp
  obtain ⟨p1,p2⟩:=pl_and hp;obtain ⟨q1,q2⟩:=prp_run h;rw [hu.eq1 p1,hv.eq1 p2];exact ⟨.one (V1.refl1 q1),q2⟩
 ·have hvp:pl v=true:=by
   unfold evNil at h
   split at h
   ·rfl
   ·rfl
   ·cases h
  rw [hv.eq1 hvp];exact evNil_run h hu
theorem cmpI_run {op:BinOp} {a b:Int} {r:Bool} (h:cmpI op a b=some r) (t:TypeId) (x y:Operand) (j:IntKind):∀ w,(do eqGuard op t x y (.int j a) (.int j b);binOp op t (.int j a) (.int j b):Sem Value).run P w=.ok (.bool r) w:=by
 unfold cmpI at h
 split at h<;>cases h<;>intro w<;>simp [eqGuard,binOp,Op.intCmp]
theorem binI_run {op:BinOp} {t:TypeId} {x y:Operand} {j k:IntKind} {a b:Int} {r:Value} (h:binI P op t x y j a k b=some r):VR ρ r r∧∀ w,(do eqGuard op t x y (.int j a) (.int k b);binOp op t (.int j a) (.int k b):Sem Value).run P w=.ok r w:=by
 unfold binI at h
 split at h
 ·rename_i hk
  have hk:=kN_inj hk;subst hk
  split at h
  ·rename_i r' hr
   cases h
   exact ⟨.one (.sc (.bool _)),cmpI_run hr t x y j⟩
  ·split at h
   ·cases h;exact ⟨.one (.sc (.int _ _)),fun w=>by simp [eqGuard,binOp,Op.intArith]⟩
   ·cases h;exact ⟨.one (.sc (.int _ _)),fun w=>by simp [eqGuard,binOp,Op.intArith]⟩
   ·exact binSlow_run h (.one (.sc (.int _ _))) (.one (.sc (.int _ _)))
 ·exact binSlow_run h (.one (.sc (.int _ _))) (.one (.sc (.int _ _)))
theorem fOff_spec {s f d:Nat} (h:fOff P s f=some d):∃ fs fd z,P.underlying s=some (.struct fs)∧fs[f]?=some fd∧szOf P fd.type=some (z+1)∧fd.offset=d:=by
 unfold fOff at h
 split at h
 ·rename_i fs hu
  split at h
  ·rename_i fd hf
   split at h
   ·rename_i z hz
    cases h
    exact ⟨fs,fd,z,hu,hf,hz,rfl⟩
   ·cases h
  ·cases h
 ·cases h
theorem evP_run {o:Oper} {v:Value} (he:∀ x u,ev x=some u→VR ρ u (ρe x)) (h:evP P ev o=some v):∃ v',VR ρ v v'∧∀ w,(execOp ρe o).run P w=.ok (.value v') w:=by
 obtain ⟨dst,op,type,pos,after,guard⟩:=o;unfold evP at h;dsimp only at h
 split at h
 ·exact ⟨_,he _ _ h,fun w=>rfl⟩
 ·exact ⟨_,he _ _ h,fun w=>rfl⟩
 ·rename_i c a b
  unfold ePick at h
  split at h
  ·rename_i hc
   have:=(he _ _ hc).bool_inv;exact ⟨_,he _ _ h,fun w=>by simp [execOp,this,asBool]⟩
  ·rename_i hc
   have:=(he _ _ hc).bool_inv;exact ⟨_,he _ _ h,fun w=>by simp [execOp,this,asBool]⟩
  ·cases h
 ·rename_i op t x y yt
  unfold eBin at h
  split at h
  ·rename_i u v' hu hv
   have hru:=he _ _ hu;have hrv:=he _ _ hv;have fin:(VR ρ v v∧∀ w,(do eqGuard op t x y (ρe x) (ρe y);binOp op t (ρe x) (ρe y):Sem Value).run P w=.ok v w)→∃ v',VR ρ v v'∧∀ w,(execOp ρe ⟨dst,.binOp op t x y yt,type,pos,after,guard⟩).run P w=.ok (.value v') w:=fun ⟨r1,r2⟩=>by
    refine ⟨v,r1,fun w=>?_⟩;simp only [execOp];rw [Sem.run_bind,r2 w];rfl
   unfold eBin2 at h
   split at h
   ·rename_i j a
    split at h
    ·rename_i k b
     refine fin ?_;rw [hru.int_inv,hrv.int_inv];exact binI_run h
    ·exact fin (binSlow_run h hru hrv)
   ·exact fin (binSlow_run h hru hrv)
  ·cases h
 ·rename_i op t x
  unfold eUn at h
  split at h
  ·rename_i u hu
   split at h
   ·rename_i hp
    obtain ⟨q1,q2⟩:=prp_run h;have e1:=(he _ _ hu).eq1 hp;refine ⟨v,.one (V1.refl1 q1),fun w=>?_⟩;simp only [execOp,e1];rw [Sem.run_bind,q2 w];rfl
   ·cases h
  ·cases h
 ·rename_i s d x
  unfold eConv at h
  split at h
  ·rename_i u hu
   split at h
   ·rename_i hp
    obtain ⟨q1,q2⟩:=prp_run h;have e1:=(he _ _ hu).eq1 hp;refine ⟨v,.one (V1.refl1 q1),fun w=>?_⟩;simp only [execOp,e1];rw [Sem.run_bind,q2 w];rfl
   ·cases h
  ·cases h
 ·rename_i t parts
  unfold eBuild at h
  split at h
  ·rename_i ps hps
   have hs:=evParts_spec he _ _ hps;obtain ⟨v',a1,a2⟩:=evBuild_run (ρ:=ρ) (parts':=parts.map fun (i,x)=>(i,ρe x)) (by simpa using hs) h;refine ⟨v',.one a1,fun w=>?_⟩;simp only [execOp];rw [Sem.run_bind,a2 w];rfl
  ·cases h
 ·rename_i x
  unfold eNilC at h
  split at h
  ·rename_i b o hx
   cases h
   have hx':=he _ _ hx;obtain ⟨C,O,N,e1,e2⟩:=hx'.ptr_inv;refine ⟨_,hx',fun w=>?_⟩;simp only [execOp,e2]
   rfl
  ·cases h
 ·rename_i s x f
  unfold eFA at h
  split at h
  ·rename_i d b o hd hx
   cases h
   obtain ⟨fs,fd,z,hu,hf,hz,rfl⟩:=fOff_spec hd;obtain ⟨C,O,N,e1,e2⟩:=(he _ _ hx).ptr_inv;refine ⟨_,.one (.sc (.ptr (o:=o+fd.offset) e1)),fun w=>?_⟩;simp only [execOp,e2];simp [Instr.fieldAt,run_underlying hu,hf,Instr.sureAddr,fieldPlace,run_szOf hz,Addr.add_lit,Nat.add_assoc]
  ·cases h
 ·rename_i t x f
  unfold eF at h
  split at h
  ·rename_i fs cs hu hx
   split at h
   ·rename_i fd hf
    obtain ⟨ys,e1,e2⟩:=(he _ _ hx).agg_inv;obtain ⟨v',a1,a2⟩:=evPart_run h e2;refine ⟨v',.one a1,fun w=>?_⟩;simp only [execOp,e1];simp [Instr.field,run_underlying hu,hf,asAgg,a2]
   ·cases h
  ·cases h
 ·rename_i t x ix
  unfold eIA at h
  split at h
  ·rename_i k i u hi hx
   have e1:=(he _ _ hi).int_inv;obtain ⟨v',a1,a2⟩:=evIndexAddr_run (k:=k) h (he _ _ hx);refine ⟨v',a1,fun w=>?_⟩;simp only [execOp,e1];rw [Sem.run_bind,a2 w];rfl
  ·cases h
 ·rename_i t x ix
  unfold eI at h
  split at h
  ·rename_i k i cs n e hi hx hu
   split at h
   ·rename_i z hr hz
    obtain ⟨ys,e1,e2⟩:=(he _ _ hx).agg_inv;have e3:=(he _ _ hi).int_inv;obtain ⟨v',a1,a2⟩:=evPart_run h e2;obtain ⟨h0,h1,_⟩:=inRange_iff hr;refine ⟨v',.one a1,fun w=>?_⟩;simp only [execOp,e1,e3];simp [Instr.index,asIntOf,run_underlying hu,h0,h1,run_szOf hz,a2]
   ·cases h
  ·cases h
 ·rename_i x i
  unfold eX at h
  split at h
  ·rename_i vs hx
   obtain ⟨ys,e1,e2⟩:=(he _ _ hx).tup_inv;obtain ⟨v',a1,a2⟩:=e2.get (i:=i) (a:=v) (by simpa using h);have a3:ys[i]?=some v':=by simpa using a1
   refine ⟨v',.one a2,fun w=>?_⟩;simp only [execOp,e1];simp [Instr.extract,a3]
  ·cases h
 ·rename_i fn first captured
  unfold eMF at h
  split at h
  ·rename_i f hf
   split at h
   ·rename_i l h0 hl
    split at h
    ·rename_i hs
     cases h
     have e0:first=#[]:=by apply Array.toList_inj.1;exact h0
     have e1:fn=.func f:=by cases fn<;>simp [evFn] at hf;rw [hf]
     subst e0 e1;refine ⟨.func (.func f) #[] (captured.map ρe),.one (.fn ?_),fun w=>?_⟩
     ·have:=evScal_spec _ _ hs (evAll_spec he _ _ hl)
      simpa using this
     ·simp [execOp,Instr.makeFunc]
    ·cases h
   ·cases h
  ·cases h
 ·rename_i c
  unfold eB at h;obtain ⟨callee,args,ats⟩:=c;dsimp only at h
  split at h
  ·rename_i b
   split at h
   ·rename_i t ts' l h0 hl
    have hx:(execOp ρe ⟨dst,.call ⟨.builtin b,args,ats⟩,type,pos,after,guard⟩)=builtin b ats type (args.map fun | .const _=>true | _=>false) (args.map ρe):=rfl;have ht:ats[0]?=some t:=by rw [← Array.getElem?_toList,h0];rfl
    unfold evBI at h
    split at h
    ·split at h
     ·rename_i e p n c hu
      cases h
      have hl':=evAll_spec he _ _ hl
      cases hm:args.toList.map ρe with
      | nil=>rw [hm] at hl';cases hl'
      | cons y ys =>
       rw [hm] at hl'
       cases hl' with
       | cons r1 r2 =>
        obtain ⟨p',c',e1,_⟩:=r1.sl_len;have:args.map ρe=(y::ys).toArray:=by apply Array.toList_inj.1;rw [Array.toList_map,hm]
        refine ⟨_,.one (.sc (.int _ _)),fun w=>?_⟩;rw [hx,this,e1];simp [builtin,Builtin.len_,run_underlying hu,ht,goInt]
     ·rename_i n e u hu
      cases h
      have hl':=evAll_spec he _ _ hl
      cases hm:args.toList.map ρe with
      | nil=>rw [hm] at hl';cases hl'
      | cons y ys =>
       have:args.map ρe=(y::ys).toArray:=by apply Array.toList_inj.1;rw [Array.toList_map,hm]
       refine ⟨_,.one (.sc (.int _ _)),fun w=>?_⟩;rw [hx,this];simp [builtin,Builtin.len_,run_underlying hu,ht,goInt]
     ·cases h
    ·split at h
     ·rename_i ha
      have e1:=evAll1_eq he hl ha;obtain ⟨q1,q2⟩:=prp_run h;have:args.map ρe=l.toArray:=by apply Array.toList_inj.1;rw [Array.toList_map,e1]
      refine ⟨v,.one (V1.refl1 q1),fun w=>?_⟩;rw [hx,this];simp [builtin,q2 w]
     ·cases h
    ·split at h
     ·rename_i ha
      have e1:=evAll1_eq he hl ha;obtain ⟨q1,q2⟩:=prp_run h;have:args.map ρe=l.toArray:=by apply Array.toList_inj.1;rw [Array.toList_map,e1]
      refine ⟨v,.one (V1.refl1 q1),fun w=>?_⟩;rw [hx,this];simp [builtin,q2 w]
     ·cases h
    ·cases h
   ·cases h
  ·cases h
 ·cases h
end
end
noncomputable section
def evBound (ev:Operand→Option Value):Option Operand→Option (Option Nat)
 | none=>some none
 | some x=>match ev x with
  | some (.int _ (.ofNat n))=>some (some n)
  | _=>none
def known (M:Mem) (b:Nat):Nat :=
 match M.bs.get b with
 | some (.cells n _)=>n
 | _=>0
def evSlice (M:Mem) (b o n c z l:Nat) (h m:Option Nat):Option Value :=
 match m with
 | some m=>match h with
  | none=>none
  | some h=>match Nat.ble l h && Nat.ble h m && Nat.blt m UNK,Nat.blt c UNK with
   | true,true=>match Nat.ble m c with
    | true=>some (.slice (some ⟨b,cond (Nat.beq m l) o (o+l*z),none⟩) (h-l) (m-l))
    | false=>none
   | true,false=>match Nat.ble m n && Nat.beq c (UNK+z) && Nat.blt 0 z with
    | true=>some (.slice (some ⟨b,cond (Nat.beq m l) o (o+l*z),none⟩) (h-l) (m-l))
    | false=>none
   | _,_=>none
 | none=>match Nat.blt c UNK with
  | true=>match Nat.ble l (h.getD n) && Nat.ble (h.getD n) c with
   | true=>some (.slice (some ⟨b,cond (Nat.beq c l) o (o+l*z),none⟩) (h.getD n-l) (c-l))
   | false=>none
  | false=>match Nat.beq c (UNK+z) && Nat.blt 0 z && Nat.ble l (h.getD n) && (Nat.ble (h.getD n) n || Nat.ble (o+h.getD n*z) (known M b)) with
   | true=>match Nat.beq l (h.getD n) && Nat.blt 0 l with
    | true=>some (.slice (some ⟨b,0,none⟩) 0 UNK)
    | false=>some (.slice (some ⟨b,o+l*z,none⟩) (h.getD n-l) c)
   | false=>none
def eLoad (P:Program) (ev:Operand→Option Value) (M:Mem) (t:TypeId) (x:Operand):Option Value :=
 match ev x with
 | some (.pointer (some ⟨b,off,none⟩))=>match isAggT P t,szOf P t with
  | some true,some n=>match M.ld b off n with
   | some l=>some (.agg l.toArray)
   | none=>none
  | some false,_=>match M.ld b off 1 with
   | some [v]=>some v
   | _=>none
  | _,_=>none
 | _=>none
def eSlice (P:Program) (ev:Operand→Option Value) (M:Mem) (t:TypeId) (x:Operand) (lo hi mx:Option Operand):Option Value :=
 match evBound ev lo,evBound ev hi,evBound ev mx with
 | some l,some h,some m=>match P.underlying t,ev x with
  | some (.slice e),some (.slice (some ⟨b,off,none⟩) n c)=>match szOf P e with
   | some z=>evSlice M b off n c z (l.getD 0) h m
   | none=>none
  | some (.slice e),some (.slice none 0 0)=>match Nat.beq (l.getD 0) 0 && Nat.beq (h.getD 0) 0 && Nat.beq (m.getD 0) 0 && (m.isNone || h.isSome),szOf P e with
   | true,some _=>some (.slice none 0 0)
   | _,_=>none
  | some (.array n e),some (.pointer (some ⟨b,off,none⟩))=>match szOf P e,m with
   | some z,none=>match Nat.blt n UNK with
    | true=>evSlice M b off n n z (l.getD 0) h none
    | false=>none
   | _,_=>none
  | _,_=>none
 | _,_,_=>none
def eEntry (ev:Operand→Option Value) (M:Mem) (x:Operand):Option Value :=
 match ev x with
 | some (.pointer (some ⟨r,0,none⟩))=>match M.bs.get r with
  | some (.it m _ seen p)=>match seen.back?,M.bs.get m with
   | some st,some (.mp es c)=>match Nat.beq c p,es.find? (·.born == st) with
    | true,some e=>match pl e.key && pl e.val with
     | true=>some (.tuple #[e.key,e.val])
     | false=>none
    | _,_=>none
   | _,_=>none
  | _=>none
 | _=>none
def evR (P:Program) (ev:Operand→Option Value) (M:Mem) (o:Oper):Option Value :=
 match o.op with
 | .load t x=>eLoad P ev M t x
 | .slice t x lo hi mx=>eSlice P ev M t x lo hi mx
 | .entry x=>eEntry ev M x
 | _=>none
def Mem.new (M:Mem) (cs:List Value):Mem:=⟨(M.put M.nx (.cells cs.length (wr .e 0 cs))).bs,M.nx+1⟩
def Mem.newB (M:Mem) (x:Blk):Mem:=⟨(M.put M.nx x).bs,M.nx+1⟩
def Mem.st (M:Mem) (b o:Nat) (vs:List Value):Option Mem :=
 match M.bs.get b with
 | some (.cells n t)=>match Nat.ble (o+vs.length) n with
  | true=>some (M.put b (.cells n (wr t o vs)))
  | false=>none
 | _=>none
def zrep (z:List Value) (k:Nat):List Value:=(List.replicate k z).flatten
def byOf (P : Program) (t : TypeId) : Option Nat:=(P.info? t).map (·.bytes)
def evAppend (P:Program) (M:Mem) (t:TypeId) (s x:Value):Option (Value×Mem) :=
 match P.underlying t with
 | some (.slice e)=>match szOf P e,byOf P e,zeroOf P e with
  | some z,some y,some zs=>match Nat.beq zs.length z && Nat.blt 0 z with
   | true=>match s,x with
    | .slice p n c,.slice none 0 0=>match Nat.ble n c with
     | true=>some (.slice p n c,M)
     | false=>none
    | .slice p n c,.slice (some ⟨bx,ox,none⟩) m _=>match Nat.beq m 0 with
     | true=>match Nat.ble n c with
      | true=>some (.slice p n c,M)
      | false=>none
     | false=>match M.ld bx ox (m*z),Nat.ble ((n+m)*y) 140737488355328 && Nat.ble (n+m) maxLen with
      | some news,true=>match p with
       | none=>match Nat.beq n 0 && Nat.beq c 0 with
        | true=>some (.slice (some ⟨M.nx,0,none⟩) m (UNK+z),M.new news)
        | false=>none
       | some ⟨b,o,none⟩=>match Nat.blt c UNK with
        | true=>match Nat.ble (n+m) c with
         | true=>match M.st b (o+n*z) news with
          | some M'=>some (.slice (some ⟨b,o,none⟩) (n+m) c,M')
          | none=>none
         | false=>match M.ld b o (n*z) with
          | some olds=>some (.slice (some ⟨M.nx,0,none⟩) (n+m) (UNK+z),M.new (olds++news))
          | none=>none
        | false=>match Nat.beq c (UNK+z) with
         | true=>match Nat.ble (o+(n+m)*z) (known M b) with
          | true=>match M.st b (o+n*z) news with
           | some M'=>some (.slice (some ⟨b,o,none⟩) (n+m) c,M')
           | none=>none
          | false=>match M.ld b o (n*z),M.bs.get b with
           | some olds,some (.cells _ _)=>some (.slice (some ⟨M.nx,0,none⟩) (n+m) (UNK+z),(M.put b .dead).new (olds++news))
           | _,_=>none
         | false=>none
       | _=>none
      | _,_=>none
    | _,_=>none
   | false=>none
  | _,_,_=>none
 | _=>none
def evCopy (P:Program) (M:Mem) (t:TypeId) (d x:Value):Option (Value×Mem) :=
 match P.underlying t with
 | some (.slice e)=>match szOf P e,d,x with
  | some z,.slice p n _,.slice q m _=>match Nat.min m n with
   | 0=>some (goInt 0,M)
   | k+1=>match p,q with
    | some ⟨b,o,none⟩,some ⟨b',o',none⟩=>match M.ld b' o' ((k+1)*z) with
     | some cs=>match M.st b o cs with
      | some M'=>some (goInt (k+1:Nat),M')
      | none=>none
     | none=>none
    | _,_=>none
  | _,_,_=>none
 | _=>none
def evClear (P:Program) (M:Mem) (t:TypeId) (x:Value):Option (Value×Mem) :=
 match P.underlying t,x with
 | some (.slice e),.slice p n _=>match n with
  | 0=>some (.tuple #[],M)
  | _=>match p,zeroOf P e with
   | some ⟨b,o,none⟩,some z=>match M.st b o (zrep z n),Nat.blt 0 z.length with
    | some M',true=>some (.tuple #[],M')
    | _,_=>none
   | _,_=>none
 | _,_=>none
def evDelete (P:Program) (M:Mem) (t:TypeId) (m k:Value):Option (Value×Mem) :=
 match P.underlying t,m,pl k with
 | some (.map kt _),.map (some b),true=>match M.bs.get b with
  | some (.mp es c)=>match prun P 100 (Instr.checkKey es.isEmpty 10000 kt k),prun P 1000 (Instr.findKey kt k es.toList) with
   | some _,some (some (i,_))=>some (.tuple #[],M.put b (.mp (es.eraseIdxIfInBounds i) c))
   | some _,some none=>some (.tuple #[],M.put b (.mp es c))
   | _,_=>none
  | _=>none
 | _,_,_=>none
def evMapUpdate (P:Program) (M:Mem) (t:TypeId) (m k x:Value):Option (Value×Mem) :=
 match P.underlying t,m,pl k && pl x with
 | some (.map kt _),.map (some b),true=>match M.bs.get b with
  | some (.mp es c)=>match prun P 100 (Instr.checkKey false 10000 kt k),prun P 1000 (Instr.findKey kt k es.toList) with
   | some _,some (some (i,_))=>match Instr.sameBits 10000 (((es[i]?).map (·.key)).getD k) k with
    | true=>some (undef,M.put b (.mp (es.modify i fun e=>{ e with key:=k,val:=x }) c))
    | false=>none
   | some _,some none=>some (undef,M.put b (.mp (es.push { key:=k,val:=x,born:=c }) (c+1)))
   | _,_=>none
  | _=>none
 | _,_,_=>none
def evNext (M:Mem) (r:Nat):Option (Value×Mem) :=
 match M.bs.get r with
 | some (.it m since seen last)=>match M.bs.get m with
  | some (.mp es c)=>match !seen.isEmpty && !es.isEmpty && es.all (·.born ≥ last) with
   | true=>none
   | false =>
    let left:=es.filter fun e=>!seen.contains e.born
    match (left.filter (·.born < since)).toList,(left.filter (·.born ≥ since)).toList with
    | [],[]=>some (.tuple #[.bool false],M)
    | [e],[]=>match pl e.key && pl e.val with
     | true=>some (.tuple #[.bool true,e.key,e.val],M.put r (.it m since (seen.push e.born) c))
     | false=>none
    | _,_=>none
  | _=>none
 | _=>none
def eAlloc (P:Program) (M:Mem) (t:TypeId):Option (Value×Mem) :=
 match zeroOf P t with
 | some z=>some (ptrV M.nx 0,M.new z)
 | none=>none
def eBox (ev:Operand→Option Value) (M:Mem) (x:Operand):Option (Value×Mem) :=
 match ev x with
 | some v=>match cellsOf v with
  | some cs=>some (ptrV M.nx 0,M.new cs)
  | none=>none
 | none=>none
def eBS (P:Program) (ev:Operand→Option Value) (M:Mem) (t:TypeId) (len:Nat) (parts:Array (Nat×Operand)):Option (Value×Mem) :=
 match P.underlying t with
 | some (.slice e)=>match szOf P e,zeroOf P e,evParts ev parts.toList with
  | some z,some zs,some ps=>match Nat.beq zs.length z && Nat.blt 0 z && Nat.ble (len*z) 16777216 with
   | true=>match evFill (fun i=>some (i*z,z)) (zrep zs len) ps with
    | some cs=>some (.slice (some ⟨M.nx,0,none⟩) len len,M.new cs)
    | none=>none
   | false=>none
  | _,_,_=>none
 | _=>none
def eMS (P:Program) (ev:Operand→Option Value) (M:Mem) (t:TypeId) (l c:Operand):Option (Value×Mem) :=
 match P.underlying t,ev l,ev c with
 | some (.slice e),some (.int _ (.ofNat n)),some (.int _ (.ofNat k))=>match szOf P e,zeroOf P e,byOf P e with
  | some z,some zs,some y=>match Nat.beq zs.length z && Nat.blt 0 z && Nat.ble n k && Nat.ble (y*k) 281474976710656 && Nat.ble k 9223372036854775807 && Nat.blt k UNK with
   | true=>some (.slice (some ⟨M.nx,0,none⟩) n k,M.new (zrep zs k))
   | false=>none
  | _,_,_=>none
 | _,_,_=>none
def eStore (P:Program) (ev:Operand→Option Value) (M:Mem) (t:TypeId) (x y:Operand):Option (Value×Mem) :=
 match ev x,ev y,szOf P t with
 | some (.pointer (some ⟨b,off,none⟩)),some v,some n=>match cellsOf v with
  | some cs=>match Nat.beq cs.length n,M.st b off cs with
   | true,some M'=>some (undef,M')
   | _,_=>none
  | none=>none
 | _,_,_=>none
def eMU (P:Program) (ev:Operand→Option Value) (M:Mem) (t:TypeId) (m k x:Operand):Option (Value×Mem) :=
 match ev m,ev k,ev x with
 | some m,some k,some x=>evMapUpdate P M t m k x
 | _,_,_=>none
def eRange (P:Program) (ev:Operand→Option Value) (M:Mem) (t:TypeId) (x:Operand):Option (Value×Mem) :=
 match P.underlying t,ev x with
 | some (.map _ _),some (.map (some b))=>match M.bs.get b with
  | some (.mp es c)=>some (ptrV M.nx 0,M.newB (.it b c #[] c))
  | _=>none
 | _,_=>none
def eNext (ev:Operand→Option Value) (M:Mem) (x:Operand):Option (Value×Mem) :=
 match ev x with
 | some (.pointer (some ⟨r,0,none⟩))=>evNext M r
 | _=>none
def eBW (P:Program) (ev:Operand→Option Value) (M:Mem) (c:Call):Option (Value×Mem) :=
 match c.callee with
 | .builtin b=>match c.argTypes.toList,evAll ev c.args.toList with
  | t::ts,some l=>match b,ts,l with
   | .append,[t'],[s,x]=>match Nat.beq t t' with
    | true=>evAppend P M t s x
    | false=>none
   | .copy,_,[d,x]=>evCopy P M t d x
   | .clear,_,[x]=>evClear P M t x
   | .delete,_,[m,k]=>evDelete P M t m k
   | _,_,_=>none
  | _,_=>none
 | _=>none
def evW (P:Program) (ev:Operand→Option Value) (M:Mem) (o:Oper):Option (Value×Mem) :=
 match o.op with
 | .alloc t=>eAlloc P M t
 | .box t x=>eBox ev M x
 | .buildSlice t len parts=>eBS P ev M t len parts
 | .makeSlice t l c=>eMS P ev M t l c
 | .store t x y=>eStore P ev M t x y
 | .makeMap t none=>some (.map (some M.nx),M.newB (.mp #[] 0))
 | .mapUpdate t m k x=>eMU P ev M t m k x
 | .range t x=>eRange P ev M t x
 | .next x false=>eNext ev M x
 | .call c=>eBW P ev M c
 | _=>none
end
noncomputable section
section
variable {P:Program} {ρ:Rho} {ev:Operand→Option Value} {ρe:Operand→Value} {w0 w:World} {M:Mem}
inductive Is:Option Value→Option Nat→Prop
 | none:Is none none
 | some (k:IntKind) (n:Nat):Is (some (.int k n)) (some n)
theorem evBound_is (he:∀ x u,ev x=some u→VR ρ u (ρe x)) {x:Option Operand} {n:Option Nat} (h:evBound ev x=some n):Is (x.map ρe) n:=by
 unfold evBound at h
 split at h
 ·cases h;exact .none
 ·split at h
  ·rename_i k n e
   cases h
   have:=(he _ _ e).int_inv;simp only [Option.map_some,this];exact .some k n
  ·cases h
theorem sb (k:IntKind) {n y:Nat} (code:BoundsCode) (h:n≤y) (w:World):(Instr.sliceBound (.int k (n:Int)) y code).run P w=.ok n w:=by
 have:=run_sliceBound (P:=P) w k (n:Int) y code (Int.natCast_nonneg n) (by omega)
 simpa using this
theorem run_bounds {isS:Bool} {len cap:Nat} {lo hi mx:Option Value} {l h m:Option Nat} (h1:Is lo l) (h2:Is hi h) (h3:Is mx m) (k1:l.getD 0≤h.getD len) (k2:h.getD len≤m.getD cap) (k3:m.getD cap≤cap) (k4:m.isSome=true→h.isSome=true) (w:World) :
  (Instr.sliceBounds isS len cap lo hi mx).run P w=.ok (l.getD 0,h.getD len,m.getD cap) w:=by
 cases h3 with
 | none =>
  cases h2 with
  | none =>
   cases h1 with
   | none=>simp [Instr.sliceBounds]
   | some k n=>simp [Instr.sliceBounds,sb (P:=P) k _ (show n≤len from k1)]
  | some k' n' =>
   cases h1 with
   | none=>simp [Instr.sliceBounds,sb (P:=P) k' _ (show n'≤cap from k2)]
   | some k n=>simp [Instr.sliceBounds,sb (P:=P) k' _ (show n'≤cap from k2),sb (P:=P) k _ (show n≤n' from k1)]
 | some k'' n'' =>
  cases h2 with
  | none=>simp at k4
  | some k' n' =>
   cases h1 with
   | none=>simp [Instr.sliceBounds,sb (P:=P) k'' _ (show n''≤cap from k3),sb (P:=P) k' _ (show n'≤n'' from k2)]
   | some k n=>simp [Instr.sliceBounds,sb (P:=P) k'' _ (show n''≤cap from k3),sb (P:=P) k' _ (show n'≤n'' from k2),sb (P:=P) k _ (show n≤n' from k1)]
def cut (a:Addr) (z n c l:Nat) (h m:Option Nat):Value:=.slice (some (if m.getD c=l then a else a.add (l*z))) (h.getD n-l) (m.getD c-l)
theorem known_le (hM:MR w0 ρ M w) {b B O N:Nat} (hb:ρ b=some (B,O,N)):known M b≤N:=by
 unfold known
 split
 ·rename_i n t hm
  exact (hM.cel _ _ _ _ _ _ hm hb).1
 ·omega
theorem blt_lt {a b:Nat} (h:Nat.blt a b=true):a<b:=by simp [Nat.blt] at h;omega
theorem evSlice_run (hM:MR w0 ρ M w) {b o n c z l:Nat} {h m:Option Nat} {v:Value} (hv:evSlice M b o n c z l h m=some v) {x':Value} (hx:SR ρ (.slice (some ⟨b,o,none⟩) n c) x') :
  ∃ a c',x'=.slice (some a) n c'∧SR ρ v (cut a z n c' l h m)∧l≤h.getD n∧h.getD n≤m.getD c'∧m.getD c'≤c'∧(m.isSome=true→h.isSome=true):=by
 unfold evSlice at hv
 split at hv
 ·rename_i m
  split at hv
  ·cases hv
  ·rename_i h
   have fin:∀ (B O N c':Nat),ρ b=some (B,O,N)→m<UNK→SR ρ (.slice (some ⟨b,cond (Nat.beq m l) o (o+l*z),none⟩) (h-l) (m-l)) (cut ⟨B,O+o,none⟩ z n c' l (some h) (some m)):=fun B O N c' e h4=>by
    unfold cut;simp only [Option.getD_some]
    by_cases hml:m=l
    ·subst hml;rw [if_pos rfl,show Nat.beq m m=true from Nat.beq_refl m];exact .sl e (by omega)
    ·rw [if_neg hml,show Nat.beq m l=false by rw [Bool.eq_false_iff];intro a;exact hml (Nat.eq_of_beq_eq_true a),Addr.add_lit,Nat.add_assoc];exact .sl e (by omega)
   split at hv
   ·rename_i hb he
    simp only [Bool.and_eq_true] at hb;obtain ⟨⟨h1,h2⟩,h4⟩:=hb;have h1:=Nat.le_of_ble_eq_true h1;have h2:=Nat.le_of_ble_eq_true h2;have h4:=blt_lt h4;have he:=blt_lt he
    split at hv
    ·rename_i h3
     cases hv
     have h3:=Nat.le_of_ble_eq_true h3
     cases hx with
     | sl e2 hc=>exact ⟨_,_,rfl,fin _ _ _ _ e2 h4,h1,h2,h3,fun _=>rfl⟩
     | su=>unfold UNK at he;omega
     | s0=>unfold UNK at he;omega
    ·cases hv
   ·rename_i hb he
    simp only [Bool.and_eq_true] at hb;obtain ⟨⟨h1,h2⟩,h4⟩:=hb;have h1:=Nat.le_of_ble_eq_true h1;have h2:=Nat.le_of_ble_eq_true h2;have h4:=blt_lt h4
    split at hv
    ·rename_i h3
     cases hv
     simp only [Bool.and_eq_true] at h3;obtain ⟨⟨h3,h5⟩,h6⟩:=h3;have h3:=Nat.le_of_ble_eq_true h3;have h5:=Nat.eq_of_beq_eq_true h5;have h6:=blt_lt h6
     cases hx with
     | sl e2 hc=>unfold UNK at hc h5;omega
     | su e2 hz hn ht hm=>exact ⟨_,_,rfl,fin _ _ _ _ e2 h4,h1,h2,by simp only [Option.getD_some];omega,fun _=>rfl⟩
     | s0=>unfold UNK at h5;omega
    ·cases hv
   ·cases hv
 ·split at hv
  ·rename_i he
   have he:=blt_lt he
   split at hv
   ·rename_i hb
    cases hv
    simp only [Bool.and_eq_true] at hb;have h1:=Nat.le_of_ble_eq_true hb.1;have h2:=Nat.le_of_ble_eq_true hb.2
    cases hx with
    | sl e2 hc =>
     refine ⟨_,_,rfl,?_,h1,h2,Nat.le_refl _,by simp⟩;unfold cut;simp only [Option.getD_none]
     by_cases hml:c=l
     ·subst hml;rw [if_pos rfl,show Nat.beq c c=true from Nat.beq_refl c];exact .sl e2 (by omega)
     ·rw [if_neg hml,show Nat.beq c l=false by rw [Bool.eq_false_iff];intro a;exact hml (Nat.eq_of_beq_eq_true a),Addr.add_lit,Nat.add_assoc];exact .sl e2 (by omega)
    | su=>unfold UNK at he;omega
    | s0=>unfold UNK at he;omega
   ·cases hv
  ·rename_i he
   split at hv
   ·rename_i hb
    simp only [Bool.and_eq_true,Bool.or_eq_true] at hb;obtain ⟨⟨⟨h5,h6⟩,h1⟩,h3⟩:=hb;have h5:=Nat.eq_of_beq_eq_true h5;have h6:=blt_lt h6;have h1:=Nat.le_of_ble_eq_true h1
    cases hx with
    | sl e2 hc=>unfold UNK at hc h5;omega
    | s0=>unfold UNK at h5;omega
    | @su _ _ _ z' c' B O N e2 hz hn ht hm =>
     have hzz:z'=z:=by omega
     subst hzz;have hle:h.getD n≤c':=by
      rcases h3 with h3 | h3
      ·have:=Nat.le_of_ble_eq_true h3;omega
      ·have h3:=Nat.le_of_ble_eq_true h3;have:=known_le hM e2;have h7:h.getD n*z'≤c'*z':=by omega
       exact Nat.le_of_mul_le_mul_right h7 h6
     refine ⟨_,_,rfl,?_,h1,hle,Nat.le_refl _,by simp⟩;unfold cut;simp only [Option.getD_none]
     split at hv
     ·rename_i hq
      rw [Bool.and_eq_true] at hq;have hq:=Nat.eq_of_beq_eq_true hq.1
      cases hv
      rw [show h.getD n-l=0 by omega];exact .s0
     ·rename_i hq
      cases hv
      have hlt:l=0∨l<h.getD n:=by
       rcases Nat.lt_or_ge l (h.getD n) with g | g
       ·exact .inr g
       ·have e1:l=h.getD n:=by omega
        rcases Nat.eq_zero_or_pos l with g0 | g0
        ·exact .inl g0
        ·rw [← e1,show Nat.beq l l=true from Nat.beq_refl _,show Nat.blt 0 l=true by simp [Nat.blt];omega] at hq
         cases hq
      have ea:(if c'=l then (⟨B,O+o,none⟩:Addr) else (⟨B,O+o,none⟩:Addr).add (l*z'))=⟨B,O+(o+l*z'),none⟩:=by
       rcases hlt with rfl | hlt
       ·split<;>simp [Addr.add]
       ·rw [if_neg (by omega),Addr.add_lit,Nat.add_assoc]
      rw [ea];refine .su e2 hz (by omega) ?_ (by omega);rw [← ht,Nat.add_assoc,← Nat.add_mul]
      congr 2;omega
   ·cases hv
theorem evR_run (hM:MR w0 ρ M w) {o:Oper} {v:Value} (he:∀ x u,ev x=some u→VR ρ u (ρe x)) (h:evR P ev M o=some v):∃ v',VR ρ v v'∧(execOp ρe o).run P w=.ok (.value v') w:=by
 obtain ⟨dst,op,type,pos,after,guard⟩:=o;unfold evR at h;dsimp only at h
 split at h
 ·rename_i t x
  unfold eLoad at h
  split at h
  ·rename_i b off hx
   obtain ⟨B,O,N,e1,e2⟩:=(he _ _ hx).ptr_inv
   split at h
   ·rename_i n ha hs
    split at h
    ·rename_i l hl
     cases h
     obtain ⟨l',a1,a2,a3⟩:=hM.ld hl e1;refine ⟨.agg l'.toArray,.one (.agg (by simpa using a1)),?_⟩;have hr:=run_loadCells_list (P:=P) w ⟨B,O+off,none⟩ l' (fun j v e=>by rw [Addr.add_lit];exact a3 j v e);rw [a2] at hr;simp only [execOp,e2];simp [Instr.loadAt,Instr.sureAddr,loadVar,run_isAggT ha,run_szOf hs,hr]
    ·cases h
   ·rename_i ha
    split at h
    ·rename_i u hl
     cases h
     obtain ⟨l',a1,a2,a3⟩:=hM.ld hl e1
     cases a1 with
     | @cons _ v' _ _ r t' =>
      have:=a3 0 v' rfl;refine ⟨v',.one (.sc r),?_⟩;simp only [execOp,e2];simp only [Nat.add_zero] at this;simp [Instr.loadAt,Instr.sureAddr,loadVar,run_isAggT ha,this]
    ·cases h
   ·cases h
  ·cases h
 ·rename_i t x lo hi mx
  unfold eSlice at h
  split at h
  ·rename_i l hh m h1 h2 h3
   have i1:=evBound_is he h1;have i2:=evBound_is he h2;have i3:=evBound_is he h3
   split at h
   ·rename_i e b off n c hu hx
    split at h
    ·rename_i z hz
     have hx':=he _ _ hx
     cases hc:ρe x with
     | slice p n' c' =>
      rw [hc] at hx';have hs:SR ρ (.slice (some ⟨b,off,none⟩) n c) (.slice p n' c'):=by
       cases hx' with
       | one r=>cases r with
        | sc r=>exact r
      obtain ⟨a,c'',e1,e2,k1,k2,k3,k4⟩:=evSlice_run hM h hs
      injection e1 with e3 e4 e5
      subst e3 e4 e5;refine ⟨_,.one (.sc e2),?_⟩;have hb:=run_bounds (P:=P) (isS:=true) (len:=n') (cap:=c') i1 i2 i3 k1 k2 k3 k4 w;simp only [execOp,hc];simp [Instr.sliceAt,Instr.slice,run_underlying hu,hb,run_szOf hz,cut]
      split<;>rfl
     | _=>rw [hc] at hx';obtain ⟨_,_,q,_⟩:=hx'.sl_len;cases q
    ·cases h
   ·rename_i e hu hx
    split at h
    ·rename_i z hb hz
     cases h
     simp only [Bool.and_eq_true] at hb;obtain ⟨⟨⟨b1,b2⟩,b3⟩,b4⟩:=hb;have b1:=Nat.eq_of_beq_eq_true b1;have b2:=Nat.eq_of_beq_eq_true b2;have b3:=Nat.eq_of_beq_eq_true b3;have hx':=(he _ _ hx).eq1 rfl;have hb:=run_bounds (P:=P) (isS:=true) (len:=0) (cap:=0) i1 i2 i3 (by omega) (by omega) (by omega) (fun q=>by cases m with
      | none=>cases q
      | some _=>simpa using b4) w
     refine ⟨_,.one (.sc .snil),?_⟩;simp only [execOp,hx'];simp [Instr.sliceAt,Instr.slice,run_underlying hu,hb,run_szOf hz,b1,b2,b3]
    ·cases h
   ·rename_i n e b off hu hx
    split at h
    ·rename_i z hz
     split at h
     ·rename_i hn
      obtain ⟨B,O,N,e1,e2⟩:=(he _ _ hx).ptr_inv;obtain ⟨a,c'',e1',e2',k1,k2,k3,k4⟩:=evSlice_run hM h (SR.sl (o:=off) (n:=n) e1 (blt_lt hn))
      injection e1' with e3 e4 e5
      simp only [Option.some.injEq] at e3;subst e3 e5;refine ⟨_,.one (.sc e2'),?_⟩;have hb:=run_bounds (P:=P) (isS:=false) (len:=n) (cap:=n) i1 i2 i3 k1 k2 k3 k4 w;simp only [execOp,e2];simp [Instr.sliceAt,Instr.sureAddr,run_underlying hu,hb,run_szOf hz,cut]
     ·cases h
    ·cases h
   ·cases h
  ·cases h
 ·rename_i x
  unfold eEntry at h
  split at h
  ·rename_i r hx
   obtain ⟨B,O,N,e1,e2⟩:=(he _ _ hx).ptr_inv
   split at h
   ·rename_i m s seen p hm
    obtain ⟨_,rfl,mB,mO,mN,d1,d2⟩:=hM.it _ _ _ _ _ _ _ _ hm e1
    split at h
    ·rename_i st es c hs hmm
     obtain ⟨_,_,d3⟩:=hM.mp _ _ _ _ _ _ hmm d1
     split at h
     ·rename_i e hq hf
      have hq:=Nat.eq_of_beq_eq_true hq;subst hq
      split at h
      ·rename_i hp
       cases h
       obtain ⟨p1,p2⟩:=pl_and hp;refine ⟨_,.tup (.cons (V1.refl1 p1) (.cons (V1.refl1 p2) .nil)),?_⟩;simp only [execOp,e2,Nat.zero_add];simp [Instr.entry,getObj,Sem.run,d2,d3,hs,hf]
      ·cases h
     ·cases h
    ·cases h
   ·cases h
  ·cases h
 ·cases h
end
end
end Go.Vm
