/-
  Audit in plain Lean: what is known behind events that keep the rules; the rules. Nothing of any program stands here.
-/
import Derived.Test.YtfphgcplpokigaaSep
namespace Go.Au

structure Ev where
  k : Int
  cy : Int
  co : Int
  a : Nat
  b : Nat
  v : Nat
structure Tk where
  st : Int
  late : Int
  on : Nat
  job : Nat
  lev : Int
/-- What must come: its kind, 0: nothing; its two numbers. -/
structure Du where
  k : Int
  a : Nat
  b : Nat
deriving DecidableEq
structure Au where
  seen : Int
  last : Ev
  due : Du
  ts : List Tk
  ow : List Int
  pn : List Bool
  isr : Int
  run : Int
def tk0 : Tk := ⟨0, 0, 0, 0, 0⟩
def ev0 : Ev := ⟨0, 0, 0, 0, 0, 0⟩
abbrev du0 : Du := ⟨0, 0, 0⟩
def au0 : Au := ⟨0, ev0, du0, List.replicate 64 tk0, List.replicate 32 0, List.replicate 16 false, 0, 0⟩

/-- A number's range, by the name that the program gives it. -/
def win (n : Nat) (r : Nat) : Bool :=
  match r with
  | 1 => true
  | 8 => decide (n < 64 ∨ n = 255)
  | 9 => decide (n = 0 ∨ 32 ≤ n ∧ n < 160)
  | 12 => decide (1 ≤ n ∧ n ≤ 255)
  | 2 => decide (n ≤ 1)
  | 3 => decide (n ≤ 15)
  | 4 => decide (n ≤ 31)
  | 10 => decide (n ≤ 31)
  | 5 => decide (n ≤ 63)
  | 6 => decide (n ≤ 79)
  | 7 => decide (n ≤ 80)
  | 11 => decide (n ≤ 255)
  | 13 => decide (n ≤ 16)
  | 14 => decide (n ≤ 38)
  | _ => decide (n ≤ 0)
def shp (k : Nat) : Nat × Nat × Nat :=
  match k with
  | 1 => (3, 2, 0)
  | 2 => (3, 6, 1)
  | 3 => (3, 0, 0)
  | 4 => (3, 0, 0)
  | 5 => (8, 8, 0)
  | 6 => (5, 0, 1)
  | 7 => (5, 0, 12)
  | 8 => (5, 0, 1)
  | 9 => (5, 9, 0)
  | 10 => (5, 2, 0)
  | 11 => (5, 10, 0)
  | 12 => (5, 4, 0)
  | 13 => (5, 4, 0)
  | 14 => (7, 4, 11)
  | 15 => (5, 4, 11)
  | 16 => (6, 4, 1)
  | 17 => (6, 4, 1)
  | 18 => (4, 0, 0)
  | 19 => (6, 4, 1)
  | 20 => (3, 6, 1)
  | 21 => (6, 13, 0)
  | 22 => (5, 0, 0)
  | 23 => (7, 13, 14)
  | _ => (0, 0, 0)
/-- Can it be an event? -/
def okN (k a b v : Nat) : Bool := win a (shp k).1 && win b (shp k).2.1 && win v (shp k).2.2 && !(decide (k = 5) && decide (a = b))
def okE (e : Ev) : Bool := decide (1 ≤ e.k ∧ e.k ≤ 24) && okN e.k.toNat e.a e.b e.v

def tkg (l : List Tk) (k : Nat) : Tk := l.getD k tk0
def owg (l : List Int) (k : Nat) : Int := l.getD k 0
def tkAt (A : Au) (x : Nat) : Tk := tkg A.ts x
def acts (A : Au) (x : Nat) : Bool :=
  if x < 64 then decide (A.isr = 0) && decide (A.run = (x : Int) + 1) && decide ((tkAt A x).st = 1)
  else if x < 80 then decide (A.isr = (x : Int) - 63)
  else decide (A.last.k = 18)
def isMu (y : Nat) : Bool := decide (32 ≤ y ∧ y < 64)
def owAt (A : Au) (y : Nat) : Int := owg A.ow y
def nobody (A : Au) : Bool := A.ts.all fun t => decide (t.st ≠ 1)
def rule (A : Au) (k a b v : Nat) (had : Bool) : Bool :=
  match k with
  | 1 => A.pn.getD a false == decide (b = 1)
  | 2 => acts A b
  | 20 => acts A b
  | 3 => decide (A.isr = 0) && A.pn.getD a false
  | 4 => decide (A.isr = (a : Int) + 1)
  | 5 => decide (A.isr = 0) && decide (A.run = if b = 255 then 0 else (b : Int) + 1) && (if a = 255 then nobody A else decide ((tkAt A a).st = 1))
  | 6 => decide ((tkAt A a).st = 0) && decide (v = ((tkAt A a).job + 1) % 4294967296)
  | 7 => decide ((tkAt A a).st ≠ 0 ∧ (tkAt A a).st ≠ 3) && decide ((v : Int) = min ((tkAt A a).late + 1) 255)
  | 8 => acts A a && decide (v = (tkAt A a).job)
  | 9 => acts A a && (!isMu b || decide (owAt A (b - 32) ≠ 0) && decide (owAt A (b - 32) ≠ (a : Int) + 1))
  | 10 => decide ((tkAt A a).st = 2) && (if (tkAt A a).on = 0 then decide (b = 0) else !isMu (tkAt A a).on || decide (b = 1) && decide (owAt A ((tkAt A a).on - 32) = 0))
  | 11 => decide ((tkAt A a).lev ≠ (b : Int) + 1)
  | 12 => decide (owAt A b = 0) && (had || acts A a)
  | 13 => decide (owAt A b = (a : Int) + 1) && (decide ((tkAt A a).st = 3) || acts A a)
  | 14 => acts A a
  | 15 => acts A a
  | 19 => acts A a
  | 23 => acts A a
  | 16 => decide (a < 64 ∧ (tkAt A a).st = 2 ∧ (tkAt A a).on = 96 + b) || acts A a
  | 17 => decide (a < 64 ∧ (tkAt A a).st = 2 ∧ (tkAt A a).on = 128 + b) || acts A a
  | 21 => acts A a
  | 22 => acts A a
  | _ => true
def setT (A : Au) (x : Nat) (t : Tk) : Au := { A with ts := A.ts.set x t }
/-- What is known behind an event (its due taken away ahead). -/
def learn (A : Au) (k a b v : Nat) : Au :=
  match k with
  | 1 => { A with pn := A.pn.set a true }
  | 3 => { A with pn := A.pn.set a false, isr := (a : Int) + 1 }
  | 4 => { A with isr := 0 }
  | 5 => { A with run := if a = 255 then 0 else (a : Int) + 1 }
  | 6 => setT A a { tkAt A a with st := 1, job := v, late := max ((tkAt A a).late - 1) 0 }
  | 7 => setT A a { tkAt A a with late := v }
  | 8 => { setT A a { tkAt A a with st := 0 } with due := if (tkAt A a).late > 0 then ⟨6, a, 0⟩ else A.due }
  | 9 => setT A a { tkAt A a with st := 2, on := b }
  | 10 => { setT A a { tkAt A a with st := 1 } with due := if isMu (tkAt A a).on then ⟨12, a, (tkAt A a).on - 32⟩ else A.due }
  | 11 => setT A a { tkAt A a with lev := (b : Int) + 1 }
  | 12 => { A with ow := A.ow.set b ((a : Int) + 1) }
  | 13 => { A with ow := A.ow.set b 0 }
  | 21 => if a < 64 then setT A a { tkAt A a with st := 3 } else { A with due := ⟨4, a - 64, 0⟩ }
  | 22 => setT A a { tkAt A a with st := 3 }
  | _ => A
def duOf (e : Ev) : Du := ⟨e.k, e.a, e.b⟩
/-- Does it come at its time? -/
def inTime (A : Au) (e : Ev) : Bool := okE e && decide (A.last.k ≠ 24) && decide (A.last.co ≤ e.co) && decide (A.last.cy ≤ e.cy) && (decide (A.due = du0) || decide (A.due = duOf e))
def keepsR (A : Au) (e : Ev) : Bool := inTime A e && rule { A with due := du0 } e.k.toNat e.a e.b e.v (decide (A.due = duOf e))
def stepA (A : Au) (e : Ev) : Au := { learn { A with due := du0 } e.k.toNat e.a e.b e.v with last := e, seen := A.seen + 1 }
/-- What is known behind an event; none: it breaks the rules. -/
def nxt (A : Au) (e : Ev) : Option Au := if keepsR A e then some (stepA A e) else none
/-- The first that breaks the rules. -/
def chk (A : Au) : List Ev → Option Nat
  | [] => none
  | e :: l => match nxt A e with
    | none => some 0
    | some B => (chk B l).map (· + 1)

/-- What an auditor's numbers keep to. -/
structure AOk (A : Au) : Prop where
  lt : A.ts.length = 64
  lo : A.ow.length = 32
  lp : A.pn.length = 16
  st : ∀ t ∈ A.ts, 0 ≤ t.st ∧ t.st ≤ 3
  late : ∀ t ∈ A.ts, 0 ≤ t.late ∧ t.late ≤ 255
  on : ∀ t ∈ A.ts, t.on < 160
  job : ∀ t ∈ A.ts, t.job < 4294967296
  lev : ∀ t ∈ A.ts, 0 ≤ t.lev ∧ t.lev ≤ 32
  own : ∀ x ∈ A.ow, 0 ≤ x ∧ x ≤ 64
  isr : 0 ≤ A.isr ∧ A.isr ≤ 16
  run : 0 ≤ A.run ∧ A.run ≤ 64
  co : 0 ≤ A.last.co ∧ A.last.co < 18446744073709551616
  cy : 0 ≤ A.last.cy ∧ A.last.cy < 18446744073709551616
  dk : 0 ≤ A.due.k ∧ A.due.k ≤ 24
  da : A.due.a < 256
  db : A.due.b < 256
  dz : A.due.k = 0 → A.due = du0
end Go.Au
