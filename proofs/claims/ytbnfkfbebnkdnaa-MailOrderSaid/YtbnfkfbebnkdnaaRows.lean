/-
  No cell of these rows narrows 'for every input' (looked for: loops, veiled, ifaces, maps, wideKeys, modest, calm, conditions, laid).
  DERIVED. THE GIVEN ROWS OF THIS SEAT. 15 by the template 'for every input the law returns true; each argument reads behind the call as it read before'; 0 by the template 'total and deterministic' (their statements: YtbnfkfbebnkdnaaTotals.lean).
  GIVEN WITH THE SEED: the statements are not yours to turn. If you find one false, say at which input.
  Laid BY PROGRAM, IN A SANDBOX (cutbox-rows.mjs): the forced cells as the released guide's own fill.sh prints them over the translation 9ea96429a977d6c3… (all of the seat's roots in one cut). By AI agents, Wed Nov 11 2026. No macro, syntax, notation, axiom, sorry.
-/
import Derived.Test.YtbnfkfbebnkdnaaChecked
import GoSem.Claim
import GoSem.ClaimJoined
import GoSem.ClaimMapViews
import Derived.JoinedTies
import Derived.KernelRfl
namespace Go.Proofs.Ytbnfkfbebnkdnaa
/- THE CELL 'sum', in the pinned program and in every row, IS THE sha256 OF THE DUMP (.gsa) THAT YtbnfkfbebnkdnaaProg.lean LOADS. Nothing in Lean hashes anything: it is a label: what it is worth is what the hold of that sum in a sandbox is worth. -/
noncomputable def Try.pinned : Pinned := { name := "ytbnfkfbebnkdnaa", sum := "9ea96429a977d6c33db5fdfa7ee770143f7c137a7bf2d0f6554bb1f7cfd2d158", checked := Try.checked }
namespace Rows
def none {H : Type} : Left H := { results := [], args := [] }

/-- 'taffraillaw16.WaitLower': WHATEVER THE INPUT: true; the input reads as it did. -/
def waitLowerSpec : ChangeSpec := { name := "waitLower", fn := fun _ => fun
  | [d1, d2, d3] => { results := [.lit (.bool true)], args := [d1, d2, d3] }
  | _ => none }
def waitLowerRow : OpenClaim := { program := "ytbnfkfbebnkdnaa", sum := "9ea96429a977d6c33db5fdfa7ee770143f7c137a7bf2d0f6554bb1f7cfd2d158", func := "taffrail/taffraillaw16.WaitLower", spec := "waitLower", apart := false }
def WaitLowerSaid : Prop := waitLowerRow.holds Try.pinned (OpenSpec.ofChange waitLowerSpec)

/-- ITS FALSE NEIGHBOUR: 'it returns false'. Refute it at one input. -/
def waitLowerWrong : ChangeSpec := { name := "waitLower", fn := fun _ => fun
  | [d1, d2, d3] => { results := [.lit (.bool false)], args := [d1, d2, d3] }
  | _ => none }
def WaitLowerWrongFalsely : Prop := waitLowerRow.holds Try.pinned (OpenSpec.ofChange waitLowerWrong)

/-- 'taffraillaw16.WaitPlays': WHATEVER THE INPUT: true; the input reads as it did. -/
def waitPlaysSpec : ChangeSpec := { name := "waitPlays", fn := fun _ => fun
  | [d1, d2] => { results := [.lit (.bool true)], args := [d1, d2] }
  | _ => none }
def waitPlaysRow : OpenClaim := { program := "ytbnfkfbebnkdnaa", sum := "9ea96429a977d6c33db5fdfa7ee770143f7c137a7bf2d0f6554bb1f7cfd2d158", func := "taffrail/taffraillaw16.WaitPlays", spec := "waitPlays", apart := false }
def WaitPlaysSaid : Prop := waitPlaysRow.holds Try.pinned (OpenSpec.ofChange waitPlaysSpec)

/-- ITS FALSE NEIGHBOUR: 'it returns false'. Refute it at one input. -/
def waitPlaysWrong : ChangeSpec := { name := "waitPlays", fn := fun _ => fun
  | [d1, d2] => { results := [.lit (.bool false)], args := [d1, d2] }
  | _ => none }
def WaitPlaysWrongFalsely : Prop := waitPlaysRow.holds Try.pinned (OpenSpec.ofChange waitPlaysWrong)

/-- 'taffraillaw16.WaitDrains': WHATEVER THE INPUT: true; the input reads as it did. -/
def waitDrainsSpec : ChangeSpec := { name := "waitDrains", fn := fun _ => fun
  | [d1, d2] => { results := [.lit (.bool true)], args := [d1, d2] }
  | _ => none }
def waitDrainsRow : OpenClaim := { program := "ytbnfkfbebnkdnaa", sum := "9ea96429a977d6c33db5fdfa7ee770143f7c137a7bf2d0f6554bb1f7cfd2d158", func := "taffrail/taffraillaw16.WaitDrains", spec := "waitDrains", apart := false }
def WaitDrainsSaid : Prop := waitDrainsRow.holds Try.pinned (OpenSpec.ofChange waitDrainsSpec)

/-- ITS FALSE NEIGHBOUR: 'it returns false'. Refute it at one input. -/
def waitDrainsWrong : ChangeSpec := { name := "waitDrains", fn := fun _ => fun
  | [d1, d2] => { results := [.lit (.bool false)], args := [d1, d2] }
  | _ => none }
def WaitDrainsWrongFalsely : Prop := waitDrainsRow.holds Try.pinned (OpenSpec.ofChange waitDrainsWrong)

/-- 'taffraillaw16.WaitOwn': WHATEVER THE INPUT: true; the input reads as it did. -/
def waitOwnSpec : ChangeSpec := { name := "waitOwn", fn := fun _ => fun
  | [d1, d2] => { results := [.lit (.bool true)], args := [d1, d2] }
  | _ => none }
def waitOwnRow : OpenClaim := { program := "ytbnfkfbebnkdnaa", sum := "9ea96429a977d6c33db5fdfa7ee770143f7c137a7bf2d0f6554bb1f7cfd2d158", func := "taffrail/taffraillaw16.WaitOwn", spec := "waitOwn", apart := false }
def WaitOwnSaid : Prop := waitOwnRow.holds Try.pinned (OpenSpec.ofChange waitOwnSpec)

/-- ITS FALSE NEIGHBOUR: 'it returns false'. Refute it at one input. -/
def waitOwnWrong : ChangeSpec := { name := "waitOwn", fn := fun _ => fun
  | [d1, d2] => { results := [.lit (.bool false)], args := [d1, d2] }
  | _ => none }
def WaitOwnWrongFalsely : Prop := waitOwnRow.holds Try.pinned (OpenSpec.ofChange waitOwnWrong)

/-- 'taffraillaw16.WaitNil': WHATEVER THE INPUT: true; the input reads as it did. -/
def waitNilSpec : ChangeSpec := { name := "waitNil", fn := fun _ => fun
  | [d1, d2] => { results := [.lit (.bool true)], args := [d1, d2] }
  | _ => none }
def waitNilRow : OpenClaim := { program := "ytbnfkfbebnkdnaa", sum := "9ea96429a977d6c33db5fdfa7ee770143f7c137a7bf2d0f6554bb1f7cfd2d158", func := "taffrail/taffraillaw16.WaitNil", spec := "waitNil", apart := false }
def WaitNilSaid : Prop := waitNilRow.holds Try.pinned (OpenSpec.ofChange waitNilSpec)

/-- ITS FALSE NEIGHBOUR: 'it returns false'. Refute it at one input. -/
def waitNilWrong : ChangeSpec := { name := "waitNil", fn := fun _ => fun
  | [d1, d2] => { results := [.lit (.bool false)], args := [d1, d2] }
  | _ => none }
def WaitNilWrongFalsely : Prop := waitNilRow.holds Try.pinned (OpenSpec.ofChange waitNilWrong)

/-- 'taffraillaw18.SemaFull': WHATEVER THE INPUT: true; the input reads as it did. -/
def semaFullSpec : ChangeSpec := { name := "semaFull", fn := fun _ => fun
  | [d1, d2] => { results := [.lit (.bool true)], args := [d1, d2] }
  | _ => none }
def semaFullRow : OpenClaim := { program := "ytbnfkfbebnkdnaa", sum := "9ea96429a977d6c33db5fdfa7ee770143f7c137a7bf2d0f6554bb1f7cfd2d158", func := "taffrail/taffraillaw18.SemaFull", spec := "semaFull", apart := false }
def SemaFullSaid : Prop := semaFullRow.holds Try.pinned (OpenSpec.ofChange semaFullSpec)

/-- ITS FALSE NEIGHBOUR: 'it returns false'. Refute it at one input. -/
def semaFullWrong : ChangeSpec := { name := "semaFull", fn := fun _ => fun
  | [d1, d2] => { results := [.lit (.bool false)], args := [d1, d2] }
  | _ => none }
def SemaFullWrongFalsely : Prop := semaFullRow.holds Try.pinned (OpenSpec.ofChange semaFullWrong)

/-- 'taffraillaw18.SemaServes': WHATEVER THE INPUT: true; the input reads as it did. -/
def semaServesSpec : ChangeSpec := { name := "semaServes", fn := fun _ => fun
  | [d1, d2] => { results := [.lit (.bool true)], args := [d1, d2] }
  | _ => none }
def semaServesRow : OpenClaim := { program := "ytbnfkfbebnkdnaa", sum := "9ea96429a977d6c33db5fdfa7ee770143f7c137a7bf2d0f6554bb1f7cfd2d158", func := "taffrail/taffraillaw18.SemaServes", spec := "semaServes", apart := false }
def SemaServesSaid : Prop := semaServesRow.holds Try.pinned (OpenSpec.ofChange semaServesSpec)

/-- ITS FALSE NEIGHBOUR: 'it returns false'. Refute it at one input. -/
def semaServesWrong : ChangeSpec := { name := "semaServes", fn := fun _ => fun
  | [d1, d2] => { results := [.lit (.bool false)], args := [d1, d2] }
  | _ => none }
def SemaServesWrongFalsely : Prop := semaServesRow.holds Try.pinned (OpenSpec.ofChange semaServesWrong)

/-- 'taffraillaw18.SemaPlays': WHATEVER THE INPUT: true; the input reads as it did. -/
def semaPlaysSpec : ChangeSpec := { name := "semaPlays", fn := fun _ => fun
  | [d1, d2, d3] => { results := [.lit (.bool true)], args := [d1, d2, d3] }
  | _ => none }
def semaPlaysRow : OpenClaim := { program := "ytbnfkfbebnkdnaa", sum := "9ea96429a977d6c33db5fdfa7ee770143f7c137a7bf2d0f6554bb1f7cfd2d158", func := "taffrail/taffraillaw18.SemaPlays", spec := "semaPlays", apart := false }
def SemaPlaysSaid : Prop := semaPlaysRow.holds Try.pinned (OpenSpec.ofChange semaPlaysSpec)

/-- ITS FALSE NEIGHBOUR: 'it returns false'. Refute it at one input. -/
def semaPlaysWrong : ChangeSpec := { name := "semaPlays", fn := fun _ => fun
  | [d1, d2, d3] => { results := [.lit (.bool false)], args := [d1, d2, d3] }
  | _ => none }
def SemaPlaysWrongFalsely : Prop := semaPlaysRow.holds Try.pinned (OpenSpec.ofChange semaPlaysWrong)

/-- 'taffraillaw18.SemaKeeps': WHATEVER THE INPUT: true; the input reads as it did. -/
def semaKeepsSpec : ChangeSpec := { name := "semaKeeps", fn := fun _ => fun
  | [d1, d2, d3] => { results := [.lit (.bool true)], args := [d1, d2, d3] }
  | _ => none }
def semaKeepsRow : OpenClaim := { program := "ytbnfkfbebnkdnaa", sum := "9ea96429a977d6c33db5fdfa7ee770143f7c137a7bf2d0f6554bb1f7cfd2d158", func := "taffrail/taffraillaw18.SemaKeeps", spec := "semaKeeps", apart := false }
def SemaKeepsSaid : Prop := semaKeepsRow.holds Try.pinned (OpenSpec.ofChange semaKeepsSpec)

/-- ITS FALSE NEIGHBOUR: 'it returns false'. Refute it at one input. -/
def semaKeepsWrong : ChangeSpec := { name := "semaKeeps", fn := fun _ => fun
  | [d1, d2, d3] => { results := [.lit (.bool false)], args := [d1, d2, d3] }
  | _ => none }
def SemaKeepsWrongFalsely : Prop := semaKeepsRow.holds Try.pinned (OpenSpec.ofChange semaKeepsWrong)

/-- 'taffraillaw18.SemaNil': WHATEVER THE INPUT: true; the input reads as it did. -/
def semaNilSpec : ChangeSpec := { name := "semaNil", fn := fun _ => fun
  | [d1, d2] => { results := [.lit (.bool true)], args := [d1, d2] }
  | _ => none }
def semaNilRow : OpenClaim := { program := "ytbnfkfbebnkdnaa", sum := "9ea96429a977d6c33db5fdfa7ee770143f7c137a7bf2d0f6554bb1f7cfd2d158", func := "taffrail/taffraillaw18.SemaNil", spec := "semaNil", apart := false }
def SemaNilSaid : Prop := semaNilRow.holds Try.pinned (OpenSpec.ofChange semaNilSpec)

/-- ITS FALSE NEIGHBOUR: 'it returns false'. Refute it at one input. -/
def semaNilWrong : ChangeSpec := { name := "semaNil", fn := fun _ => fun
  | [d1, d2] => { results := [.lit (.bool false)], args := [d1, d2] }
  | _ => none }
def SemaNilWrongFalsely : Prop := semaNilRow.holds Try.pinned (OpenSpec.ofChange semaNilWrong)

/-- 'taffraillaw19.MailOrder': WHATEVER THE INPUT: true; the input reads as it did. -/
def mailOrderSpec : ChangeSpec := { name := "mailOrder", fn := fun _ => fun
  | [d1, d2] => { results := [.lit (.bool true)], args := [d1, d2] }
  | _ => none }
def mailOrderRow : OpenClaim := { program := "ytbnfkfbebnkdnaa", sum := "9ea96429a977d6c33db5fdfa7ee770143f7c137a7bf2d0f6554bb1f7cfd2d158", func := "taffrail/taffraillaw19.MailOrder", spec := "mailOrder", apart := false }
def MailOrderSaid : Prop := mailOrderRow.holds Try.pinned (OpenSpec.ofChange mailOrderSpec)

/-- ITS FALSE NEIGHBOUR: 'it returns false'. Refute it at one input. -/
def mailOrderWrong : ChangeSpec := { name := "mailOrder", fn := fun _ => fun
  | [d1, d2] => { results := [.lit (.bool false)], args := [d1, d2] }
  | _ => none }
def MailOrderWrongFalsely : Prop := mailOrderRow.holds Try.pinned (OpenSpec.ofChange mailOrderWrong)

/-- 'taffraillaw19.MailEmpties': WHATEVER THE INPUT: true; the input reads as it did. -/
def mailEmptiesSpec : ChangeSpec := { name := "mailEmpties", fn := fun _ => fun
  | [d1, d2, d3] => { results := [.lit (.bool true)], args := [d1, d2, d3] }
  | _ => none }
def mailEmptiesRow : OpenClaim := { program := "ytbnfkfbebnkdnaa", sum := "9ea96429a977d6c33db5fdfa7ee770143f7c137a7bf2d0f6554bb1f7cfd2d158", func := "taffrail/taffraillaw19.MailEmpties", spec := "mailEmpties", apart := false }
def MailEmptiesSaid : Prop := mailEmptiesRow.holds Try.pinned (OpenSpec.ofChange mailEmptiesSpec)

/-- ITS FALSE NEIGHBOUR: 'it returns false'. Refute it at one input. -/
def mailEmptiesWrong : ChangeSpec := { name := "mailEmpties", fn := fun _ => fun
  | [d1, d2, d3] => { results := [.lit (.bool false)], args := [d1, d2, d3] }
  | _ => none }
def MailEmptiesWrongFalsely : Prop := mailEmptiesRow.holds Try.pinned (OpenSpec.ofChange mailEmptiesWrong)

/-- 'taffraillaw19.MailPlays': WHATEVER THE INPUT: true; the input reads as it did. -/
def mailPlaysSpec : ChangeSpec := { name := "mailPlays", fn := fun _ => fun
  | [d1, d2, d3] => { results := [.lit (.bool true)], args := [d1, d2, d3] }
  | _ => none }
def mailPlaysRow : OpenClaim := { program := "ytbnfkfbebnkdnaa", sum := "9ea96429a977d6c33db5fdfa7ee770143f7c137a7bf2d0f6554bb1f7cfd2d158", func := "taffrail/taffraillaw19.MailPlays", spec := "mailPlays", apart := false }
def MailPlaysSaid : Prop := mailPlaysRow.holds Try.pinned (OpenSpec.ofChange mailPlaysSpec)

/-- ITS FALSE NEIGHBOUR: 'it returns false'. Refute it at one input. -/
def mailPlaysWrong : ChangeSpec := { name := "mailPlays", fn := fun _ => fun
  | [d1, d2, d3] => { results := [.lit (.bool false)], args := [d1, d2, d3] }
  | _ => none }
def MailPlaysWrongFalsely : Prop := mailPlaysRow.holds Try.pinned (OpenSpec.ofChange mailPlaysWrong)

/-- 'taffraillaw19.MailRests': WHATEVER THE INPUT: true; the input reads as it did. -/
def mailRestsSpec : ChangeSpec := { name := "mailRests", fn := fun _ => fun
  | [d1, d2, d3] => { results := [.lit (.bool true)], args := [d1, d2, d3] }
  | _ => none }
def mailRestsRow : OpenClaim := { program := "ytbnfkfbebnkdnaa", sum := "9ea96429a977d6c33db5fdfa7ee770143f7c137a7bf2d0f6554bb1f7cfd2d158", func := "taffrail/taffraillaw19.MailRests", spec := "mailRests", apart := false }
def MailRestsSaid : Prop := mailRestsRow.holds Try.pinned (OpenSpec.ofChange mailRestsSpec)

/-- ITS FALSE NEIGHBOUR: 'it returns false'. Refute it at one input. -/
def mailRestsWrong : ChangeSpec := { name := "mailRests", fn := fun _ => fun
  | [d1, d2, d3] => { results := [.lit (.bool false)], args := [d1, d2, d3] }
  | _ => none }
def MailRestsWrongFalsely : Prop := mailRestsRow.holds Try.pinned (OpenSpec.ofChange mailRestsWrong)

/-- 'taffraillaw19.MailNil': WHATEVER THE INPUT: true; the input reads as it did. -/
def mailNilSpec : ChangeSpec := { name := "mailNil", fn := fun _ => fun
  | [d1, d2, d3] => { results := [.lit (.bool true)], args := [d1, d2, d3] }
  | _ => none }
def mailNilRow : OpenClaim := { program := "ytbnfkfbebnkdnaa", sum := "9ea96429a977d6c33db5fdfa7ee770143f7c137a7bf2d0f6554bb1f7cfd2d158", func := "taffrail/taffraillaw19.MailNil", spec := "mailNil", apart := false }
def MailNilSaid : Prop := mailNilRow.holds Try.pinned (OpenSpec.ofChange mailNilSpec)

/-- ITS FALSE NEIGHBOUR: 'it returns false'. Refute it at one input. -/
def mailNilWrong : ChangeSpec := { name := "mailNil", fn := fun _ => fun
  | [d1, d2, d3] => { results := [.lit (.bool false)], args := [d1, d2, d3] }
  | _ => none }
def MailNilWrongFalsely : Prop := mailNilRow.holds Try.pinned (OpenSpec.ofChange mailNilWrong)

/- THE SECOND FORM. 'bulk': how many values and letters a reading holds, each counted each time it is reached (what is shared counts as often as it is met; a slice's spare places count too). A statement '..UptoSaid' is the law's where the arguments, and the package variables that the reading takes, are together of bulk at most 1048576: NARROWER than '..Said'. Prove '..Said' where nothing that the law and all that it calls make is longer than what came in: it says more and counts as full. Else prove '..UptoSaid'. A law counts once. -/
mutual
def uptoBulk {H : Type} : DataW H → Nat
  | .lit (.string bytes) => bytes.length + 1
  | .lit _ => 1
  | .nil => 1
  | .ptr d => uptoBulk d + 1
  | .slice elems spare => uptoBulkAll elems + uptoBulkAll spare + 1
  | .agg parts => uptoBulkAll parts + 1
  | .iface _ d => uptoBulk d + 1
  | .map entries => uptoBulkEntries entries + 1
  | .held _ => 1
def uptoBulkAll {H : Type} : List (DataW H) → Nat
  | [] => 0
  | d :: r => uptoBulk d + uptoBulkAll r
def uptoBulkEntries {H : Type} : List (Lit × DataW H) → Nat
  | [] => 0
  | x :: r => uptoBulkEntry x + uptoBulkEntries r
def uptoBulkEntry {H : Type} : Lit × DataW H → Nat
  | (.string bytes, d) => bytes.length + uptoBulk d + 1
  | (_, d) => uptoBulk d + 1
 end
def uptoSmall : (H : Type) → List (DataW H) → Bool := fun _ ds => decide (uptoBulkAll ds ≤ 1048576)
def OpenSpec.upto (s : _root_.Go.ChangeSpec) : _root_.Go.OpenSpec := { _root_.Go.OpenSpec.ofChange s with cond := some uptoSmall }

/-- 'taffraillaw16.WaitLower', WHERE WHAT IT READS IS OF BULK AT MOST 1048576: true; the input reads as it did. -/
def waitLowerUptoRow : OpenClaim := { program := "ytbnfkfbebnkdnaa", sum := "9ea96429a977d6c33db5fdfa7ee770143f7c137a7bf2d0f6554bb1f7cfd2d158", func := "taffrail/taffraillaw16.WaitLower", spec := "waitLower", apart := false, narrowed := true }
def WaitLowerUptoSaid : Prop := waitLowerUptoRow.holds Try.pinned (OpenSpec.upto waitLowerSpec)

/-- 'taffraillaw16.WaitPlays', WHERE WHAT IT READS IS OF BULK AT MOST 1048576: true; the input reads as it did. -/
def waitPlaysUptoRow : OpenClaim := { program := "ytbnfkfbebnkdnaa", sum := "9ea96429a977d6c33db5fdfa7ee770143f7c137a7bf2d0f6554bb1f7cfd2d158", func := "taffrail/taffraillaw16.WaitPlays", spec := "waitPlays", apart := false, narrowed := true }
def WaitPlaysUptoSaid : Prop := waitPlaysUptoRow.holds Try.pinned (OpenSpec.upto waitPlaysSpec)

/-- 'taffraillaw16.WaitDrains', WHERE WHAT IT READS IS OF BULK AT MOST 1048576: true; the input reads as it did. -/
def waitDrainsUptoRow : OpenClaim := { program := "ytbnfkfbebnkdnaa", sum := "9ea96429a977d6c33db5fdfa7ee770143f7c137a7bf2d0f6554bb1f7cfd2d158", func := "taffrail/taffraillaw16.WaitDrains", spec := "waitDrains", apart := false, narrowed := true }
def WaitDrainsUptoSaid : Prop := waitDrainsUptoRow.holds Try.pinned (OpenSpec.upto waitDrainsSpec)

/-- 'taffraillaw16.WaitOwn', WHERE WHAT IT READS IS OF BULK AT MOST 1048576: true; the input reads as it did. -/
def waitOwnUptoRow : OpenClaim := { program := "ytbnfkfbebnkdnaa", sum := "9ea96429a977d6c33db5fdfa7ee770143f7c137a7bf2d0f6554bb1f7cfd2d158", func := "taffrail/taffraillaw16.WaitOwn", spec := "waitOwn", apart := false, narrowed := true }
def WaitOwnUptoSaid : Prop := waitOwnUptoRow.holds Try.pinned (OpenSpec.upto waitOwnSpec)

/-- 'taffraillaw16.WaitNil', WHERE WHAT IT READS IS OF BULK AT MOST 1048576: true; the input reads as it did. -/
def waitNilUptoRow : OpenClaim := { program := "ytbnfkfbebnkdnaa", sum := "9ea96429a977d6c33db5fdfa7ee770143f7c137a7bf2d0f6554bb1f7cfd2d158", func := "taffrail/taffraillaw16.WaitNil", spec := "waitNil", apart := false, narrowed := true }
def WaitNilUptoSaid : Prop := waitNilUptoRow.holds Try.pinned (OpenSpec.upto waitNilSpec)

/-- 'taffraillaw18.SemaFull', WHERE WHAT IT READS IS OF BULK AT MOST 1048576: true; the input reads as it did. -/
def semaFullUptoRow : OpenClaim := { program := "ytbnfkfbebnkdnaa", sum := "9ea96429a977d6c33db5fdfa7ee770143f7c137a7bf2d0f6554bb1f7cfd2d158", func := "taffrail/taffraillaw18.SemaFull", spec := "semaFull", apart := false, narrowed := true }
def SemaFullUptoSaid : Prop := semaFullUptoRow.holds Try.pinned (OpenSpec.upto semaFullSpec)

/-- 'taffraillaw18.SemaServes', WHERE WHAT IT READS IS OF BULK AT MOST 1048576: true; the input reads as it did. -/
def semaServesUptoRow : OpenClaim := { program := "ytbnfkfbebnkdnaa", sum := "9ea96429a977d6c33db5fdfa7ee770143f7c137a7bf2d0f6554bb1f7cfd2d158", func := "taffrail/taffraillaw18.SemaServes", spec := "semaServes", apart := false, narrowed := true }
def SemaServesUptoSaid : Prop := semaServesUptoRow.holds Try.pinned (OpenSpec.upto semaServesSpec)

/-- 'taffraillaw18.SemaPlays', WHERE WHAT IT READS IS OF BULK AT MOST 1048576: true; the input reads as it did. -/
def semaPlaysUptoRow : OpenClaim := { program := "ytbnfkfbebnkdnaa", sum := "9ea96429a977d6c33db5fdfa7ee770143f7c137a7bf2d0f6554bb1f7cfd2d158", func := "taffrail/taffraillaw18.SemaPlays", spec := "semaPlays", apart := false, narrowed := true }
def SemaPlaysUptoSaid : Prop := semaPlaysUptoRow.holds Try.pinned (OpenSpec.upto semaPlaysSpec)

/-- 'taffraillaw18.SemaKeeps', WHERE WHAT IT READS IS OF BULK AT MOST 1048576: true; the input reads as it did. -/
def semaKeepsUptoRow : OpenClaim := { program := "ytbnfkfbebnkdnaa", sum := "9ea96429a977d6c33db5fdfa7ee770143f7c137a7bf2d0f6554bb1f7cfd2d158", func := "taffrail/taffraillaw18.SemaKeeps", spec := "semaKeeps", apart := false, narrowed := true }
def SemaKeepsUptoSaid : Prop := semaKeepsUptoRow.holds Try.pinned (OpenSpec.upto semaKeepsSpec)

/-- 'taffraillaw18.SemaNil', WHERE WHAT IT READS IS OF BULK AT MOST 1048576: true; the input reads as it did. -/
def semaNilUptoRow : OpenClaim := { program := "ytbnfkfbebnkdnaa", sum := "9ea96429a977d6c33db5fdfa7ee770143f7c137a7bf2d0f6554bb1f7cfd2d158", func := "taffrail/taffraillaw18.SemaNil", spec := "semaNil", apart := false, narrowed := true }
def SemaNilUptoSaid : Prop := semaNilUptoRow.holds Try.pinned (OpenSpec.upto semaNilSpec)

/-- 'taffraillaw19.MailOrder', WHERE WHAT IT READS IS OF BULK AT MOST 1048576: true; the input reads as it did. -/
def mailOrderUptoRow : OpenClaim := { program := "ytbnfkfbebnkdnaa", sum := "9ea96429a977d6c33db5fdfa7ee770143f7c137a7bf2d0f6554bb1f7cfd2d158", func := "taffrail/taffraillaw19.MailOrder", spec := "mailOrder", apart := false, narrowed := true }
def MailOrderUptoSaid : Prop := mailOrderUptoRow.holds Try.pinned (OpenSpec.upto mailOrderSpec)

/-- 'taffraillaw19.MailEmpties', WHERE WHAT IT READS IS OF BULK AT MOST 1048576: true; the input reads as it did. -/
def mailEmptiesUptoRow : OpenClaim := { program := "ytbnfkfbebnkdnaa", sum := "9ea96429a977d6c33db5fdfa7ee770143f7c137a7bf2d0f6554bb1f7cfd2d158", func := "taffrail/taffraillaw19.MailEmpties", spec := "mailEmpties", apart := false, narrowed := true }
def MailEmptiesUptoSaid : Prop := mailEmptiesUptoRow.holds Try.pinned (OpenSpec.upto mailEmptiesSpec)

/-- 'taffraillaw19.MailPlays', WHERE WHAT IT READS IS OF BULK AT MOST 1048576: true; the input reads as it did. -/
def mailPlaysUptoRow : OpenClaim := { program := "ytbnfkfbebnkdnaa", sum := "9ea96429a977d6c33db5fdfa7ee770143f7c137a7bf2d0f6554bb1f7cfd2d158", func := "taffrail/taffraillaw19.MailPlays", spec := "mailPlays", apart := false, narrowed := true }
def MailPlaysUptoSaid : Prop := mailPlaysUptoRow.holds Try.pinned (OpenSpec.upto mailPlaysSpec)

/-- 'taffraillaw19.MailRests', WHERE WHAT IT READS IS OF BULK AT MOST 1048576: true; the input reads as it did. -/
def mailRestsUptoRow : OpenClaim := { program := "ytbnfkfbebnkdnaa", sum := "9ea96429a977d6c33db5fdfa7ee770143f7c137a7bf2d0f6554bb1f7cfd2d158", func := "taffrail/taffraillaw19.MailRests", spec := "mailRests", apart := false, narrowed := true }
def MailRestsUptoSaid : Prop := mailRestsUptoRow.holds Try.pinned (OpenSpec.upto mailRestsSpec)

/-- 'taffraillaw19.MailNil', WHERE WHAT IT READS IS OF BULK AT MOST 1048576: true; the input reads as it did. -/
def mailNilUptoRow : OpenClaim := { program := "ytbnfkfbebnkdnaa", sum := "9ea96429a977d6c33db5fdfa7ee770143f7c137a7bf2d0f6554bb1f7cfd2d158", func := "taffrail/taffraillaw19.MailNil", spec := "mailNil", apart := false, narrowed := true }
def MailNilUptoSaid : Prop := mailNilUptoRow.holds Try.pinned (OpenSpec.upto mailNilSpec)

end Rows
end Go.Proofs.Ytbnfkfbebnkdnaa
