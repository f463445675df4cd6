/-
  No cell of these rows narrows 'for every input' (looked for: loops, veiled, ifaces, maps, wideKeys, modest, calm, conditions, laid).
  DERIVED. THE GIVEN ROWS OF THIS SEAT. 4 by the template 'for every input the law returns true; each argument reads behind the call as it read before'; 0 by the template 'total and deterministic' (their statements: YtbpomibholcpfaaTotals.lean).
  GIVEN WITH THE SEED: the statements are not yours to turn. If you find one false, say at which input.
  Laid BY PROGRAM, IN A SANDBOX (cutbox-rows.mjs): the forced cells as the released guide's own fill.sh prints them over the translation fcd5fd04ac052ed4… (all of the seat's roots in one cut). By AI agents, Wed Nov 11 2026. No macro, syntax, notation, axiom, sorry.
-/
import Derived.Test.YtbpomibholcpfaaChecked
import GoSem.Claim
import GoSem.ClaimJoined
import GoSem.ClaimMapViews
import Derived.JoinedTies
import Derived.KernelRfl
namespace Go.Proofs.Ytbpomibholcpfaa
/- THE CELL 'sum', in the pinned program and in every row, IS THE sha256 OF THE DUMP (.gsa) THAT YtbpomibholcpfaaProg.lean LOADS. Nothing in Lean hashes anything: it is a label: what it is worth is what the hold of that sum in a sandbox is worth. -/
noncomputable def Try.pinned : Pinned := { name := "ytbpomibholcpfaa", sum := "fcd5fd04ac052ed4d6d4bdf33ee9c0361d587017e194b5ee5a0a1c51955c2622", checked := Try.checked }
namespace Rows
def none {H : Type} : Left H := { results := [], args := [] }

/-- 'variorumlaw16.LinenoUnits': WHATEVER THE INPUT: true; the input reads as it did. -/
def linenoUnitsSpec : ChangeSpec := { name := "linenoUnits", fn := fun _ => fun
  | [d1, d2] => { results := [.lit (.bool true)], args := [d1, d2] }
  | _ => none }
def linenoUnitsRow : OpenClaim := { program := "ytbpomibholcpfaa", sum := "fcd5fd04ac052ed4d6d4bdf33ee9c0361d587017e194b5ee5a0a1c51955c2622", func := "variorum/variorumlaw16.LinenoUnits", spec := "linenoUnits", apart := false }
def LinenoUnitsSaid : Prop := linenoUnitsRow.holds Try.pinned (OpenSpec.ofChange linenoUnitsSpec)

/-- ITS FALSE NEIGHBOUR: 'it returns false'. Refute it at one input. -/
def linenoUnitsWrong : ChangeSpec := { name := "linenoUnits", fn := fun _ => fun
  | [d1, d2] => { results := [.lit (.bool false)], args := [d1, d2] }
  | _ => none }
def LinenoUnitsWrongFalsely : Prop := linenoUnitsRow.holds Try.pinned (OpenSpec.ofChange linenoUnitsWrong)

/-- 'variorumlaw16.LinenoCounts': WHATEVER THE INPUT: true; the input reads as it did. -/
def linenoCountsSpec : ChangeSpec := { name := "linenoCounts", fn := fun _ => fun
  | [d1, d2] => { results := [.lit (.bool true)], args := [d1, d2] }
  | _ => none }
def linenoCountsRow : OpenClaim := { program := "ytbpomibholcpfaa", sum := "fcd5fd04ac052ed4d6d4bdf33ee9c0361d587017e194b5ee5a0a1c51955c2622", func := "variorum/variorumlaw16.LinenoCounts", spec := "linenoCounts", apart := false }
def LinenoCountsSaid : Prop := linenoCountsRow.holds Try.pinned (OpenSpec.ofChange linenoCountsSpec)

/-- ITS FALSE NEIGHBOUR: 'it returns false'. Refute it at one input. -/
def linenoCountsWrong : ChangeSpec := { name := "linenoCounts", fn := fun _ => fun
  | [d1, d2] => { results := [.lit (.bool false)], args := [d1, d2] }
  | _ => none }
def LinenoCountsWrongFalsely : Prop := linenoCountsRow.holds Try.pinned (OpenSpec.ofChange linenoCountsWrong)

/-- 'variorumlaw16.LinenoMargins': WHATEVER THE INPUT: true; the input reads as it did. -/
def linenoMarginsSpec : ChangeSpec := { name := "linenoMargins", fn := fun _ => fun
  | [d1, d2, d3] => { results := [.lit (.bool true)], args := [d1, d2, d3] }
  | _ => none }
def linenoMarginsRow : OpenClaim := { program := "ytbpomibholcpfaa", sum := "fcd5fd04ac052ed4d6d4bdf33ee9c0361d587017e194b5ee5a0a1c51955c2622", func := "variorum/variorumlaw16.LinenoMargins", spec := "linenoMargins", apart := false }
def LinenoMarginsSaid : Prop := linenoMarginsRow.holds Try.pinned (OpenSpec.ofChange linenoMarginsSpec)

/-- ITS FALSE NEIGHBOUR: 'it returns false'. Refute it at one input. -/
def linenoMarginsWrong : ChangeSpec := { name := "linenoMargins", fn := fun _ => fun
  | [d1, d2, d3] => { results := [.lit (.bool false)], args := [d1, d2, d3] }
  | _ => none }
def LinenoMarginsWrongFalsely : Prop := linenoMarginsRow.holds Try.pinned (OpenSpec.ofChange linenoMarginsWrong)

/-- 'variorumlaw16.LinenoSkips': WHATEVER THE INPUT: true; the input reads as it did. -/
def linenoSkipsSpec : ChangeSpec := { name := "linenoSkips", fn := fun _ => fun
  | [d1, d2] => { results := [.lit (.bool true)], args := [d1, d2] }
  | _ => none }
def linenoSkipsRow : OpenClaim := { program := "ytbpomibholcpfaa", sum := "fcd5fd04ac052ed4d6d4bdf33ee9c0361d587017e194b5ee5a0a1c51955c2622", func := "variorum/variorumlaw16.LinenoSkips", spec := "linenoSkips", apart := false }
def LinenoSkipsSaid : Prop := linenoSkipsRow.holds Try.pinned (OpenSpec.ofChange linenoSkipsSpec)

/-- ITS FALSE NEIGHBOUR: 'it returns false'. Refute it at one input. -/
def linenoSkipsWrong : ChangeSpec := { name := "linenoSkips", fn := fun _ => fun
  | [d1, d2] => { results := [.lit (.bool false)], args := [d1, d2] }
  | _ => none }
def LinenoSkipsWrongFalsely : Prop := linenoSkipsRow.holds Try.pinned (OpenSpec.ofChange linenoSkipsWrong)

/- THE SECOND FORM. 'bulk': how many values and letters a reading holds, each counted each time it is reached (what is shared counts as often as it is met; a slice's spare places count too). A statement '..UptoSaid' is the law's where the arguments, and the package variables that the reading takes, are together of bulk at most 1048576: NARROWER than '..Said'. Prove '..Said' where nothing that the law and all that it calls make is longer than what came in: it says more and counts as full. Else prove '..UptoSaid'. A law counts once. -/
mutual
def uptoBulk {H : Type} : DataW H → Nat
  | .lit (.string bytes) => bytes.length + 1
  | .lit _ => 1
  | .nil => 1
  | .ptr d => uptoBulk d + 1
  | .slice elems spare => uptoBulkAll elems + uptoBulkAll spare + 1
  | .agg parts => uptoBulkAll parts + 1
  | .iface _ d => uptoBulk d + 1
  | .map entries => uptoBulkEntries entries + 1
  | .held _ => 1
def uptoBulkAll {H : Type} : List (DataW H) → Nat
  | [] => 0
  | d :: r => uptoBulk d + uptoBulkAll r
def uptoBulkEntries {H : Type} : List (Lit × DataW H) → Nat
  | [] => 0
  | x :: r => uptoBulkEntry x + uptoBulkEntries r
def uptoBulkEntry {H : Type} : Lit × DataW H → Nat
  | (.string bytes, d) => bytes.length + uptoBulk d + 1
  | (_, d) => uptoBulk d + 1
 end
def uptoSmall : (H : Type) → List (DataW H) → Bool := fun _ ds => decide (uptoBulkAll ds ≤ 1048576)
def OpenSpec.upto (s : _root_.Go.ChangeSpec) : _root_.Go.OpenSpec := { _root_.Go.OpenSpec.ofChange s with cond := some uptoSmall }

/-- 'variorumlaw16.LinenoUnits', WHERE WHAT IT READS IS OF BULK AT MOST 1048576: true; the input reads as it did. -/
def linenoUnitsUptoRow : OpenClaim := { program := "ytbpomibholcpfaa", sum := "fcd5fd04ac052ed4d6d4bdf33ee9c0361d587017e194b5ee5a0a1c51955c2622", func := "variorum/variorumlaw16.LinenoUnits", spec := "linenoUnits", apart := false, narrowed := true }
def LinenoUnitsUptoSaid : Prop := linenoUnitsUptoRow.holds Try.pinned (OpenSpec.upto linenoUnitsSpec)

/-- 'variorumlaw16.LinenoCounts', WHERE WHAT IT READS IS OF BULK AT MOST 1048576: true; the input reads as it did. -/
def linenoCountsUptoRow : OpenClaim := { program := "ytbpomibholcpfaa", sum := "fcd5fd04ac052ed4d6d4bdf33ee9c0361d587017e194b5ee5a0a1c51955c2622", func := "variorum/variorumlaw16.LinenoCounts", spec := "linenoCounts", apart := false, narrowed := true }
def LinenoCountsUptoSaid : Prop := linenoCountsUptoRow.holds Try.pinned (OpenSpec.upto linenoCountsSpec)

/-- 'variorumlaw16.LinenoMargins', WHERE WHAT IT READS IS OF BULK AT MOST 1048576: true; the input reads as it did. -/
def linenoMarginsUptoRow : OpenClaim := { program := "ytbpomibholcpfaa", sum := "fcd5fd04ac052ed4d6d4bdf33ee9c0361d587017e194b5ee5a0a1c51955c2622", func := "variorum/variorumlaw16.LinenoMargins", spec := "linenoMargins", apart := false, narrowed := true }
def LinenoMarginsUptoSaid : Prop := linenoMarginsUptoRow.holds Try.pinned (OpenSpec.upto linenoMarginsSpec)

/-- 'variorumlaw16.LinenoSkips', WHERE WHAT IT READS IS OF BULK AT MOST 1048576: true; the input reads as it did. -/
def linenoSkipsUptoRow : OpenClaim := { program := "ytbpomibholcpfaa", sum := "fcd5fd04ac052ed4d6d4bdf33ee9c0361d587017e194b5ee5a0a1c51955c2622", func := "variorum/variorumlaw16.LinenoSkips", spec := "linenoSkips", apart := false, narrowed := true }
def LinenoSkipsUptoSaid : Prop := linenoSkipsUptoRow.holds Try.pinned (OpenSpec.upto linenoSkipsSpec)

end Rows
end Go.Proofs.Ytbpomibholcpfaa
