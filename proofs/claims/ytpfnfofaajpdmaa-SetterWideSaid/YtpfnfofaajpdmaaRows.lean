/-
  No cell of these rows narrows 'for every input' (looked for: loops, veiled, ifaces, maps, wideKeys, modest, calm, conditions, laid).
  DERIVED. THE GIVEN ROWS OF THIS SEAT. 4 by the template 'for every input the law returns true; each argument reads behind the call as it read before'; 0 by the template 'total and deterministic' (their statements: YtpfnfofaajpdmaaTotals.lean).
  GIVEN WITH THE SEED: the statements are not yours to turn. If you find one false, say at which input.
  Laid BY PROGRAM, IN A SANDBOX (cutbox-rows.mjs): the forced cells as the released guide's own fill.sh prints them over the translation 7f99f55de3bf339d… (all of the seat's roots in one cut). By AI agents, Wed Nov 11 2026. No macro, syntax, notation, axiom, sorry.
-/
import Derived.Test.YtpfnfofaajpdmaaChecked
import GoSem.Claim
import GoSem.ClaimJoined
import GoSem.ClaimMapViews
import Derived.JoinedTies
import Derived.KernelRfl
namespace Go.Proofs.Ytpfnfofaajpdmaa
/- THE CELL 'sum', in the pinned program and in every row, IS THE sha256 OF THE DUMP (.gsa) THAT YtpfnfofaajpdmaaProg.lean LOADS. Nothing in Lean hashes anything: it is a label: what it is worth is what the hold of that sum in a sandbox is worth. -/
noncomputable def Try.pinned : Pinned := { name := "ytpfnfofaajpdmaa", sum := "7f99f55de3bf339deef3e0a1b19d03d7cac6732e9d04f71df93d63df91738d49", checked := Try.checked }
namespace Rows
def none {H : Type} : Left H := { results := [], args := [] }

/-- 'variorumlaw12.SetterLines': WHATEVER THE INPUT: true; the input reads as it did. -/
def setterLinesSpec : ChangeSpec := { name := "setterLines", fn := fun _ => fun
  | [d1, d2, d3] => { results := [.lit (.bool true)], args := [d1, d2, d3] }
  | _ => none }
def setterLinesRow : OpenClaim := { program := "ytpfnfofaajpdmaa", sum := "7f99f55de3bf339deef3e0a1b19d03d7cac6732e9d04f71df93d63df91738d49", func := "variorum/variorumlaw12.SetterLines", spec := "setterLines", apart := false }
def SetterLinesSaid : Prop := setterLinesRow.holds Try.pinned (OpenSpec.ofChange setterLinesSpec)

/-- ITS FALSE NEIGHBOUR: 'it returns false'. Refute it at one input. -/
def setterLinesWrong : ChangeSpec := { name := "setterLines", fn := fun _ => fun
  | [d1, d2, d3] => { results := [.lit (.bool false)], args := [d1, d2, d3] }
  | _ => none }
def SetterLinesWrongFalsely : Prop := setterLinesRow.holds Try.pinned (OpenSpec.ofChange setterLinesWrong)

/-- 'variorumlaw12.SetterKeeps': WHATEVER THE INPUT: true; the input reads as it did. -/
def setterKeepsSpec : ChangeSpec := { name := "setterKeeps", fn := fun _ => fun
  | [d1, d2, d3] => { results := [.lit (.bool true)], args := [d1, d2, d3] }
  | _ => none }
def setterKeepsRow : OpenClaim := { program := "ytpfnfofaajpdmaa", sum := "7f99f55de3bf339deef3e0a1b19d03d7cac6732e9d04f71df93d63df91738d49", func := "variorum/variorumlaw12.SetterKeeps", spec := "setterKeeps", apart := false }
def SetterKeepsSaid : Prop := setterKeepsRow.holds Try.pinned (OpenSpec.ofChange setterKeepsSpec)

/-- ITS FALSE NEIGHBOUR: 'it returns false'. Refute it at one input. -/
def setterKeepsWrong : ChangeSpec := { name := "setterKeeps", fn := fun _ => fun
  | [d1, d2, d3] => { results := [.lit (.bool false)], args := [d1, d2, d3] }
  | _ => none }
def SetterKeepsWrongFalsely : Prop := setterKeepsRow.holds Try.pinned (OpenSpec.ofChange setterKeepsWrong)

/-- 'variorumlaw12.SetterWide': WHATEVER THE INPUT: true; the input reads as it did. -/
def setterWideSpec : ChangeSpec := { name := "setterWide", fn := fun _ => fun
  | [d1, d2] => { results := [.lit (.bool true)], args := [d1, d2] }
  | _ => none }
def setterWideRow : OpenClaim := { program := "ytpfnfofaajpdmaa", sum := "7f99f55de3bf339deef3e0a1b19d03d7cac6732e9d04f71df93d63df91738d49", func := "variorum/variorumlaw12.SetterWide", spec := "setterWide", apart := false }
def SetterWideSaid : Prop := setterWideRow.holds Try.pinned (OpenSpec.ofChange setterWideSpec)

/-- ITS FALSE NEIGHBOUR: 'it returns false'. Refute it at one input. -/
def setterWideWrong : ChangeSpec := { name := "setterWide", fn := fun _ => fun
  | [d1, d2] => { results := [.lit (.bool false)], args := [d1, d2] }
  | _ => none }
def SetterWideWrongFalsely : Prop := setterWideRow.holds Try.pinned (OpenSpec.ofChange setterWideWrong)

/-- 'variorumlaw12.SetterFirst': WHATEVER THE INPUT: true; the input reads as it did. -/
def setterFirstSpec : ChangeSpec := { name := "setterFirst", fn := fun _ => fun
  | [d1, d2, d3] => { results := [.lit (.bool true)], args := [d1, d2, d3] }
  | _ => none }
def setterFirstRow : OpenClaim := { program := "ytpfnfofaajpdmaa", sum := "7f99f55de3bf339deef3e0a1b19d03d7cac6732e9d04f71df93d63df91738d49", func := "variorum/variorumlaw12.SetterFirst", spec := "setterFirst", apart := false }
def SetterFirstSaid : Prop := setterFirstRow.holds Try.pinned (OpenSpec.ofChange setterFirstSpec)

/-- ITS FALSE NEIGHBOUR: 'it returns false'. Refute it at one input. -/
def setterFirstWrong : ChangeSpec := { name := "setterFirst", fn := fun _ => fun
  | [d1, d2, d3] => { results := [.lit (.bool false)], args := [d1, d2, d3] }
  | _ => none }
def SetterFirstWrongFalsely : Prop := setterFirstRow.holds Try.pinned (OpenSpec.ofChange setterFirstWrong)

/- THE SECOND FORM. 'bulk': how many values and letters a reading holds, each counted each time it is reached (what is shared counts as often as it is met; a slice's spare places count too). A statement '..UptoSaid' is the law's where the arguments, and the package variables that the reading takes, are together of bulk at most 1048576: NARROWER than '..Said'. Prove '..Said' where nothing that the law and all that it calls make is longer than what came in: it says more and counts as full. Else prove '..UptoSaid'. A law counts once. -/
mutual
def uptoBulk {H : Type} : DataW H → Nat
  | .lit (.string bytes) => bytes.length + 1
  | .lit _ => 1
  | .nil => 1
  | .ptr d => uptoBulk d + 1
  | .slice elems spare => uptoBulkAll elems + uptoBulkAll spare + 1
  | .agg parts => uptoBulkAll parts + 1
  | .iface _ d => uptoBulk d + 1
  | .map entries => uptoBulkEntries entries + 1
  | .held _ => 1
def uptoBulkAll {H : Type} : List (DataW H) → Nat
  | [] => 0
  | d :: r => uptoBulk d + uptoBulkAll r
def uptoBulkEntries {H : Type} : List (Lit × DataW H) → Nat
  | [] => 0
  | x :: r => uptoBulkEntry x + uptoBulkEntries r
def uptoBulkEntry {H : Type} : Lit × DataW H → Nat
  | (.string bytes, d) => bytes.length + uptoBulk d + 1
  | (_, d) => uptoBulk d + 1
 end
def uptoSmall : (H : Type) → List (DataW H) → Bool := fun _ ds => decide (uptoBulkAll ds ≤ 1048576)
def OpenSpec.upto (s : _root_.Go.ChangeSpec) : _root_.Go.OpenSpec := { _root_.Go.OpenSpec.ofChange s with cond := some uptoSmall }

/-- 'variorumlaw12.SetterLines', WHERE WHAT IT READS IS OF BULK AT MOST 1048576: true; the input reads as it did. -/
def setterLinesUptoRow : OpenClaim := { program := "ytpfnfofaajpdmaa", sum := "7f99f55de3bf339deef3e0a1b19d03d7cac6732e9d04f71df93d63df91738d49", func := "variorum/variorumlaw12.SetterLines", spec := "setterLines", apart := false, narrowed := true }
def SetterLinesUptoSaid : Prop := setterLinesUptoRow.holds Try.pinned (OpenSpec.upto setterLinesSpec)

/-- 'variorumlaw12.SetterKeeps', WHERE WHAT IT READS IS OF BULK AT MOST 1048576: true; the input reads as it did. -/
def setterKeepsUptoRow : OpenClaim := { program := "ytpfnfofaajpdmaa", sum := "7f99f55de3bf339deef3e0a1b19d03d7cac6732e9d04f71df93d63df91738d49", func := "variorum/variorumlaw12.SetterKeeps", spec := "setterKeeps", apart := false, narrowed := true }
def SetterKeepsUptoSaid : Prop := setterKeepsUptoRow.holds Try.pinned (OpenSpec.upto setterKeepsSpec)

/-- 'variorumlaw12.SetterWide', WHERE WHAT IT READS IS OF BULK AT MOST 1048576: true; the input reads as it did. -/
def setterWideUptoRow : OpenClaim := { program := "ytpfnfofaajpdmaa", sum := "7f99f55de3bf339deef3e0a1b19d03d7cac6732e9d04f71df93d63df91738d49", func := "variorum/variorumlaw12.SetterWide", spec := "setterWide", apart := false, narrowed := true }
def SetterWideUptoSaid : Prop := setterWideUptoRow.holds Try.pinned (OpenSpec.upto setterWideSpec)

/-- 'variorumlaw12.SetterFirst', WHERE WHAT IT READS IS OF BULK AT MOST 1048576: true; the input reads as it did. -/
def setterFirstUptoRow : OpenClaim := { program := "ytpfnfofaajpdmaa", sum := "7f99f55de3bf339deef3e0a1b19d03d7cac6732e9d04f71df93d63df91738d49", func := "variorum/variorumlaw12.SetterFirst", spec := "setterFirst", apart := false, narrowed := true }
def SetterFirstUptoSaid : Prop := setterFirstUptoRow.holds Try.pinned (OpenSpec.upto setterFirstSpec)

end Rows
end Go.Proofs.Ytpfnfofaajpdmaa
