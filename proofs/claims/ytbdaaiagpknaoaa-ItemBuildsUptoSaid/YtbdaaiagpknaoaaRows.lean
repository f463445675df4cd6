/-
  No cell of these rows narrows 'for every input' (looked for: loops, veiled, ifaces, maps, wideKeys, modest, calm, conditions, laid).
  DERIVED. THE GIVEN ROWS OF THIS SEAT. 4 by the template 'for every input the law returns true; each argument reads behind the call as it read before'; 0 by the template 'total and deterministic' (their statements: YtbdaaiagpknaoaaTotals.lean).
  GIVEN WITH THE SEED: the statements are not yours to turn. If you find one false, say at which input.
  Laid BY PROGRAM, IN A SANDBOX (cutbox-rows.mjs): the forced cells as the released guide's own fill.sh prints them over the translation 8b31bf59ee05e560… (all of the seat's roots in one cut). By AI agents, Wed Nov 11 2026. No macro, syntax, notation, axiom, sorry.
-/
import Derived.Test.YtbdaaiagpknaoaaChecked
import GoSem.Claim
import GoSem.ClaimJoined
import GoSem.ClaimMapViews
import Derived.JoinedTies
import Derived.KernelRfl
namespace Go.Proofs.Ytbdaaiagpknaoaa
/- THE CELL 'sum', in the pinned program and in every row, IS THE sha256 OF THE DUMP (.gsa) THAT YtbdaaiagpknaoaaProg.lean LOADS. Nothing in Lean hashes anything: it is a label: what it is worth is what the hold of that sum in a sandbox is worth. -/
noncomputable def Try.pinned : Pinned := { name := "ytbdaaiagpknaoaa", sum := "8b31bf59ee05e5607d4a8854e02ff0b78401315c586089099d8be4b5fc9d823d", checked := Try.checked }
namespace Rows
def none {H : Type} : Left H := { results := [], args := [] }

/-- 'variorumlaw09.ItemBuilds': WHATEVER THE INPUT: true; the input reads as it did. -/
def itemBuildsSpec : ChangeSpec := { name := "itemBuilds", fn := fun _ => fun
  | [d1, d2, d3] => { results := [.lit (.bool true)], args := [d1, d2, d3] }
  | _ => none }
def itemBuildsRow : OpenClaim := { program := "ytbdaaiagpknaoaa", sum := "8b31bf59ee05e5607d4a8854e02ff0b78401315c586089099d8be4b5fc9d823d", func := "variorum/variorumlaw09.ItemBuilds", spec := "itemBuilds", apart := false }
def ItemBuildsSaid : Prop := itemBuildsRow.holds Try.pinned (OpenSpec.ofChange itemBuildsSpec)

/-- ITS FALSE NEIGHBOUR: 'it returns false'. Refute it at one input. -/
def itemBuildsWrong : ChangeSpec := { name := "itemBuilds", fn := fun _ => fun
  | [d1, d2, d3] => { results := [.lit (.bool false)], args := [d1, d2, d3] }
  | _ => none }
def ItemBuildsWrongFalsely : Prop := itemBuildsRow.holds Try.pinned (OpenSpec.ofChange itemBuildsWrong)

/-- 'variorumlaw09.ItemMay': WHATEVER THE INPUT: true; the input reads as it did. -/
def itemMaySpec : ChangeSpec := { name := "itemMay", fn := fun _ => fun
  | [d] => { results := [.lit (.bool true)], args := [d] }
  | _ => none }
def itemMayRow : OpenClaim := { program := "ytbdaaiagpknaoaa", sum := "8b31bf59ee05e5607d4a8854e02ff0b78401315c586089099d8be4b5fc9d823d", func := "variorum/variorumlaw09.ItemMay", spec := "itemMay", apart := false }
def ItemMaySaid : Prop := itemMayRow.holds Try.pinned (OpenSpec.ofChange itemMaySpec)

/-- ITS FALSE NEIGHBOUR: 'it returns false'. Refute it at one input. -/
def itemMayWrong : ChangeSpec := { name := "itemMay", fn := fun _ => fun
  | [d] => { results := [.lit (.bool false)], args := [d] }
  | _ => none }
def ItemMayWrongFalsely : Prop := itemMayRow.holds Try.pinned (OpenSpec.ofChange itemMayWrong)

/-- 'variorumlaw09.ItemBoxes': WHATEVER THE INPUT: true; the input reads as it did. -/
def itemBoxesSpec : ChangeSpec := { name := "itemBoxes", fn := fun _ => fun
  | [d1, d2, d3] => { results := [.lit (.bool true)], args := [d1, d2, d3] }
  | _ => none }
def itemBoxesRow : OpenClaim := { program := "ytbdaaiagpknaoaa", sum := "8b31bf59ee05e5607d4a8854e02ff0b78401315c586089099d8be4b5fc9d823d", func := "variorum/variorumlaw09.ItemBoxes", spec := "itemBoxes", apart := false }
def ItemBoxesSaid : Prop := itemBoxesRow.holds Try.pinned (OpenSpec.ofChange itemBoxesSpec)

/-- ITS FALSE NEIGHBOUR: 'it returns false'. Refute it at one input. -/
def itemBoxesWrong : ChangeSpec := { name := "itemBoxes", fn := fun _ => fun
  | [d1, d2, d3] => { results := [.lit (.bool false)], args := [d1, d2, d3] }
  | _ => none }
def ItemBoxesWrongFalsely : Prop := itemBoxesRow.holds Try.pinned (OpenSpec.ofChange itemBoxesWrong)

/-- 'variorumlaw09.ItemParts': WHATEVER THE INPUT: true; the input reads as it did. -/
def itemPartsSpec : ChangeSpec := { name := "itemParts", fn := fun _ => fun
  | [d1, d2, d3] => { results := [.lit (.bool true)], args := [d1, d2, d3] }
  | _ => none }
def itemPartsRow : OpenClaim := { program := "ytbdaaiagpknaoaa", sum := "8b31bf59ee05e5607d4a8854e02ff0b78401315c586089099d8be4b5fc9d823d", func := "variorum/variorumlaw09.ItemParts", spec := "itemParts", apart := false }
def ItemPartsSaid : Prop := itemPartsRow.holds Try.pinned (OpenSpec.ofChange itemPartsSpec)

/-- ITS FALSE NEIGHBOUR: 'it returns false'. Refute it at one input. -/
def itemPartsWrong : ChangeSpec := { name := "itemParts", fn := fun _ => fun
  | [d1, d2, d3] => { results := [.lit (.bool false)], args := [d1, d2, d3] }
  | _ => none }
def ItemPartsWrongFalsely : Prop := itemPartsRow.holds Try.pinned (OpenSpec.ofChange itemPartsWrong)

/- THE SECOND FORM. 'bulk': how many values and letters a reading holds, each counted each time it is reached (what is shared counts as often as it is met; a slice's spare places count too). A statement '..UptoSaid' is the law's where the arguments, and the package variables that the reading takes, are together of bulk at most 1048576: NARROWER than '..Said'. Prove '..Said' where nothing that the law and all that it calls make is longer than what came in: it says more and counts as full. Else prove '..UptoSaid'. A law counts once. -/
mutual
def uptoBulk {H : Type} : DataW H → Nat
  | .lit (.string bytes) => bytes.length + 1
  | .lit _ => 1
  | .nil => 1
  | .ptr d => uptoBulk d + 1
  | .slice elems spare => uptoBulkAll elems + uptoBulkAll spare + 1
  | .agg parts => uptoBulkAll parts + 1
  | .iface _ d => uptoBulk d + 1
  | .map entries => uptoBulkEntries entries + 1
  | .held _ => 1
def uptoBulkAll {H : Type} : List (DataW H) → Nat
  | [] => 0
  | d :: r => uptoBulk d + uptoBulkAll r
def uptoBulkEntries {H : Type} : List (Lit × DataW H) → Nat
  | [] => 0
  | x :: r => uptoBulkEntry x + uptoBulkEntries r
def uptoBulkEntry {H : Type} : Lit × DataW H → Nat
  | (.string bytes, d) => bytes.length + uptoBulk d + 1
  | (_, d) => uptoBulk d + 1
 end
def uptoSmall : (H : Type) → List (DataW H) → Bool := fun _ ds => decide (uptoBulkAll ds ≤ 1048576)
def OpenSpec.upto (s : _root_.Go.ChangeSpec) : _root_.Go.OpenSpec := { _root_.Go.OpenSpec.ofChange s with cond := some uptoSmall }

/-- 'variorumlaw09.ItemBuilds', WHERE WHAT IT READS IS OF BULK AT MOST 1048576: true; the input reads as it did. -/
def itemBuildsUptoRow : OpenClaim := { program := "ytbdaaiagpknaoaa", sum := "8b31bf59ee05e5607d4a8854e02ff0b78401315c586089099d8be4b5fc9d823d", func := "variorum/variorumlaw09.ItemBuilds", spec := "itemBuilds", apart := false, narrowed := true }
def ItemBuildsUptoSaid : Prop := itemBuildsUptoRow.holds Try.pinned (OpenSpec.upto itemBuildsSpec)

/-- 'variorumlaw09.ItemMay', WHERE WHAT IT READS IS OF BULK AT MOST 1048576: true; the input reads as it did. -/
def itemMayUptoRow : OpenClaim := { program := "ytbdaaiagpknaoaa", sum := "8b31bf59ee05e5607d4a8854e02ff0b78401315c586089099d8be4b5fc9d823d", func := "variorum/variorumlaw09.ItemMay", spec := "itemMay", apart := false, narrowed := true }
def ItemMayUptoSaid : Prop := itemMayUptoRow.holds Try.pinned (OpenSpec.upto itemMaySpec)

/-- 'variorumlaw09.ItemBoxes', WHERE WHAT IT READS IS OF BULK AT MOST 1048576: true; the input reads as it did. -/
def itemBoxesUptoRow : OpenClaim := { program := "ytbdaaiagpknaoaa", sum := "8b31bf59ee05e5607d4a8854e02ff0b78401315c586089099d8be4b5fc9d823d", func := "variorum/variorumlaw09.ItemBoxes", spec := "itemBoxes", apart := false, narrowed := true }
def ItemBoxesUptoSaid : Prop := itemBoxesUptoRow.holds Try.pinned (OpenSpec.upto itemBoxesSpec)

/-- 'variorumlaw09.ItemParts', WHERE WHAT IT READS IS OF BULK AT MOST 1048576: true; the input reads as it did. -/
def itemPartsUptoRow : OpenClaim := { program := "ytbdaaiagpknaoaa", sum := "8b31bf59ee05e5607d4a8854e02ff0b78401315c586089099d8be4b5fc9d823d", func := "variorum/variorumlaw09.ItemParts", spec := "itemParts", apart := false, narrowed := true }
def ItemPartsUptoSaid : Prop := itemPartsUptoRow.holds Try.pinned (OpenSpec.upto itemPartsSpec)

end Rows
end Go.Proofs.Ytbdaaiagpknaoaa
