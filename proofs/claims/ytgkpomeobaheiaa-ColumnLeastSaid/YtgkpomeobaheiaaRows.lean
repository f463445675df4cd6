/-
  No cell of these rows narrows 'for every input' (looked for: loops, veiled, ifaces, maps, wideKeys, modest, calm, conditions, laid).
  DERIVED. THE GIVEN ROWS OF THIS SEAT. 4 by the template 'for every input the law returns true; each argument reads behind the call as it read before'; 0 by the template 'total and deterministic' (their statements: YtgkpomeobaheiaaTotals.lean).
  GIVEN WITH THE SEED: the statements are not yours to turn. If you find one false, say at which input.
  Laid BY PROGRAM, IN A SANDBOX (cutbox-rows.mjs): the forced cells as the released guide's own fill.sh prints them over the translation 48b8faea8353ffa8… (all of the seat's roots in one cut). By AI agents, Wed Nov 11 2026. No macro, syntax, notation, axiom, sorry.
-/
import Derived.Test.YtgkpomeobaheiaaChecked
import GoSem.Claim
import GoSem.ClaimJoined
import GoSem.ClaimMapViews
import Derived.JoinedTies
import Derived.KernelRfl
namespace Go.Proofs.Ytgkpomeobaheiaa
/- THE CELL 'sum', in the pinned program and in every row, IS THE sha256 OF THE DUMP (.gsa) THAT YtgkpomeobaheiaaProg.lean LOADS. Nothing in Lean hashes anything: it is a label: what it is worth is what the hold of that sum in a sandbox is worth. -/
noncomputable def Try.pinned : Pinned := { name := "ytgkpomeobaheiaa", sum := "48b8faea8353ffa846add4358d18bfbf0d20ee34db8d7cb7cf47cb8d790353d0", checked := Try.checked }
namespace Rows
def none {H : Type} : Left H := { results := [], args := [] }

/-- 'variorumlaw19.ColumnTells': WHATEVER THE INPUT: true; the input reads as it did. -/
def columnTellsSpec : ChangeSpec := { name := "columnTells", fn := fun _ => fun
  | [d1, d2, d3] => { results := [.lit (.bool true)], args := [d1, d2, d3] }
  | _ => none }
def columnTellsRow : OpenClaim := { program := "ytgkpomeobaheiaa", sum := "48b8faea8353ffa846add4358d18bfbf0d20ee34db8d7cb7cf47cb8d790353d0", func := "variorum/variorumlaw19.ColumnTells", spec := "columnTells", unfollowed := true, recurses := true, apart := false }
def ColumnTellsSaid : Prop := columnTellsRow.holds Try.pinned (OpenSpec.ofChange columnTellsSpec)

/-- ITS FALSE NEIGHBOUR: 'it returns false'. Refute it at one input. -/
def columnTellsWrong : ChangeSpec := { name := "columnTells", fn := fun _ => fun
  | [d1, d2, d3] => { results := [.lit (.bool false)], args := [d1, d2, d3] }
  | _ => none }
def ColumnTellsWrongFalsely : Prop := columnTellsRow.holds Try.pinned (OpenSpec.ofChange columnTellsWrong)

/-- 'variorumlaw19.ColumnLeast': WHATEVER THE INPUT: true; the input reads as it did. -/
def columnLeastSpec : ChangeSpec := { name := "columnLeast", fn := fun _ => fun
  | [d1, d2, d3] => { results := [.lit (.bool true)], args := [d1, d2, d3] }
  | _ => none }
def columnLeastRow : OpenClaim := { program := "ytgkpomeobaheiaa", sum := "48b8faea8353ffa846add4358d18bfbf0d20ee34db8d7cb7cf47cb8d790353d0", func := "variorum/variorumlaw19.ColumnLeast", spec := "columnLeast", unfollowed := true, recurses := true, apart := false }
def ColumnLeastSaid : Prop := columnLeastRow.holds Try.pinned (OpenSpec.ofChange columnLeastSpec)

/-- ITS FALSE NEIGHBOUR: 'it returns false'. Refute it at one input. -/
def columnLeastWrong : ChangeSpec := { name := "columnLeast", fn := fun _ => fun
  | [d1, d2, d3] => { results := [.lit (.bool false)], args := [d1, d2, d3] }
  | _ => none }
def ColumnLeastWrongFalsely : Prop := columnLeastRow.holds Try.pinned (OpenSpec.ofChange columnLeastWrong)

/-- 'variorumlaw19.ColumnMore': WHATEVER THE INPUT: true; the input reads as it did. -/
def columnMoreSpec : ChangeSpec := { name := "columnMore", fn := fun _ => fun
  | [d1, d2, d3] => { results := [.lit (.bool true)], args := [d1, d2, d3] }
  | _ => none }
def columnMoreRow : OpenClaim := { program := "ytgkpomeobaheiaa", sum := "48b8faea8353ffa846add4358d18bfbf0d20ee34db8d7cb7cf47cb8d790353d0", func := "variorum/variorumlaw19.ColumnMore", spec := "columnMore", unfollowed := true, recurses := true, apart := false }
def ColumnMoreSaid : Prop := columnMoreRow.holds Try.pinned (OpenSpec.ofChange columnMoreSpec)

/-- ITS FALSE NEIGHBOUR: 'it returns false'. Refute it at one input. -/
def columnMoreWrong : ChangeSpec := { name := "columnMore", fn := fun _ => fun
  | [d1, d2, d3] => { results := [.lit (.bool false)], args := [d1, d2, d3] }
  | _ => none }
def ColumnMoreWrongFalsely : Prop := columnMoreRow.holds Try.pinned (OpenSpec.ofChange columnMoreWrong)

/-- 'variorumlaw19.ColumnFills': WHATEVER THE INPUT: true; the input reads as it did. -/
def columnFillsSpec : ChangeSpec := { name := "columnFills", fn := fun _ => fun
  | [d1, d2, d3] => { results := [.lit (.bool true)], args := [d1, d2, d3] }
  | _ => none }
def columnFillsRow : OpenClaim := { program := "ytgkpomeobaheiaa", sum := "48b8faea8353ffa846add4358d18bfbf0d20ee34db8d7cb7cf47cb8d790353d0", func := "variorum/variorumlaw19.ColumnFills", spec := "columnFills", unfollowed := true, recurses := true, apart := false }
def ColumnFillsSaid : Prop := columnFillsRow.holds Try.pinned (OpenSpec.ofChange columnFillsSpec)

/-- ITS FALSE NEIGHBOUR: 'it returns false'. Refute it at one input. -/
def columnFillsWrong : ChangeSpec := { name := "columnFills", fn := fun _ => fun
  | [d1, d2, d3] => { results := [.lit (.bool false)], args := [d1, d2, d3] }
  | _ => none }
def ColumnFillsWrongFalsely : Prop := columnFillsRow.holds Try.pinned (OpenSpec.ofChange columnFillsWrong)

/- THE SECOND FORM. 'bulk': how many values and letters a reading holds, each counted each time it is reached (what is shared counts as often as it is met; a slice's spare places count too). A statement '..UptoSaid' is the law's where the arguments, and the package variables that the reading takes, are together of bulk at most 1048576: NARROWER than '..Said'. Prove '..Said' where nothing that the law and all that it calls make is longer than what came in: it says more and counts as full. Else prove '..UptoSaid'. A law counts once. -/
mutual
def uptoBulk {H : Type} : DataW H → Nat
  | .lit (.string bytes) => bytes.length + 1
  | .lit _ => 1
  | .nil => 1
  | .ptr d => uptoBulk d + 1
  | .slice elems spare => uptoBulkAll elems + uptoBulkAll spare + 1
  | .agg parts => uptoBulkAll parts + 1
  | .iface _ d => uptoBulk d + 1
  | .map entries => uptoBulkEntries entries + 1
  | .held _ => 1
def uptoBulkAll {H : Type} : List (DataW H) → Nat
  | [] => 0
  | d :: r => uptoBulk d + uptoBulkAll r
def uptoBulkEntries {H : Type} : List (Lit × DataW H) → Nat
  | [] => 0
  | x :: r => uptoBulkEntry x + uptoBulkEntries r
def uptoBulkEntry {H : Type} : Lit × DataW H → Nat
  | (.string bytes, d) => bytes.length + uptoBulk d + 1
  | (_, d) => uptoBulk d + 1
 end
def uptoSmall : (H : Type) → List (DataW H) → Bool := fun _ ds => decide (uptoBulkAll ds ≤ 1048576)
def OpenSpec.upto (s : _root_.Go.ChangeSpec) : _root_.Go.OpenSpec := { _root_.Go.OpenSpec.ofChange s with cond := some uptoSmall }

/-- 'variorumlaw19.ColumnTells', WHERE WHAT IT READS IS OF BULK AT MOST 1048576: true; the input reads as it did. -/
def columnTellsUptoRow : OpenClaim := { program := "ytgkpomeobaheiaa", sum := "48b8faea8353ffa846add4358d18bfbf0d20ee34db8d7cb7cf47cb8d790353d0", func := "variorum/variorumlaw19.ColumnTells", spec := "columnTells", unfollowed := true, recurses := true, apart := false, narrowed := true }
def ColumnTellsUptoSaid : Prop := columnTellsUptoRow.holds Try.pinned (OpenSpec.upto columnTellsSpec)

/-- 'variorumlaw19.ColumnLeast', WHERE WHAT IT READS IS OF BULK AT MOST 1048576: true; the input reads as it did. -/
def columnLeastUptoRow : OpenClaim := { program := "ytgkpomeobaheiaa", sum := "48b8faea8353ffa846add4358d18bfbf0d20ee34db8d7cb7cf47cb8d790353d0", func := "variorum/variorumlaw19.ColumnLeast", spec := "columnLeast", unfollowed := true, recurses := true, apart := false, narrowed := true }
def ColumnLeastUptoSaid : Prop := columnLeastUptoRow.holds Try.pinned (OpenSpec.upto columnLeastSpec)

/-- 'variorumlaw19.ColumnMore', WHERE WHAT IT READS IS OF BULK AT MOST 1048576: true; the input reads as it did. -/
def columnMoreUptoRow : OpenClaim := { program := "ytgkpomeobaheiaa", sum := "48b8faea8353ffa846add4358d18bfbf0d20ee34db8d7cb7cf47cb8d790353d0", func := "variorum/variorumlaw19.ColumnMore", spec := "columnMore", unfollowed := true, recurses := true, apart := false, narrowed := true }
def ColumnMoreUptoSaid : Prop := columnMoreUptoRow.holds Try.pinned (OpenSpec.upto columnMoreSpec)

/-- 'variorumlaw19.ColumnFills', WHERE WHAT IT READS IS OF BULK AT MOST 1048576: true; the input reads as it did. -/
def columnFillsUptoRow : OpenClaim := { program := "ytgkpomeobaheiaa", sum := "48b8faea8353ffa846add4358d18bfbf0d20ee34db8d7cb7cf47cb8d790353d0", func := "variorum/variorumlaw19.ColumnFills", spec := "columnFills", unfollowed := true, recurses := true, apart := false, narrowed := true }
def ColumnFillsUptoSaid : Prop := columnFillsUptoRow.holds Try.pinned (OpenSpec.upto columnFillsSpec)

end Rows
end Go.Proofs.Ytgkpomeobaheiaa
