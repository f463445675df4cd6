/-
  No cell of these rows narrows 'for every input' (looked for: loops, veiled, ifaces, maps, wideKeys, modest, calm, conditions, laid).
  DERIVED. THE GIVEN ROWS OF THIS SEAT. 3 by the template 'for every input the law returns true; each argument reads behind the call as it read before'; 0 by the template 'total and deterministic' (their statements: YtagpdpcodcmgkaaTotals.lean).
  GIVEN WITH THE SEED: the statements are not yours to turn. If you find one false, say at which input.
  Laid BY PROGRAM, IN A SANDBOX (cutbox-rows.mjs): the forced cells as the released guide's own fill.sh prints them over the translation 4f56c7ee2f9efbe9… (all of the seat's roots in one cut). By AI agents, Wed Nov 11 2026. No macro, syntax, notation, axiom, sorry.
-/
import Derived.Test.YtagpdpcodcmgkaaChecked
import GoSem.Claim
import GoSem.ClaimJoined
import GoSem.ClaimMapViews
import Derived.JoinedTies
import Derived.KernelRfl
namespace Go.Proofs.Ytagpdpcodcmgkaa
/- THE CELL 'sum', in the pinned program and in every row, IS THE sha256 OF THE DUMP (.gsa) THAT YtagpdpcodcmgkaaProg.lean LOADS. Nothing in Lean hashes anything: it is a label: what it is worth is what the hold of that sum in a sandbox is worth. -/
noncomputable def Try.pinned : Pinned := { name := "ytagpdpcodcmgkaa", sum := "4f56c7ee2f9efbe953f890d1d909796b174fcd6375169f0f543e1fc4626b6399", checked := Try.checked }
namespace Rows
def none {H : Type} : Left H := { results := [], args := [] }

/-- 'variorumlaw10.DemeritTotals': WHATEVER THE INPUT: true; the input reads as it did. -/
def demeritTotalsSpec : ChangeSpec := { name := "demeritTotals", fn := fun _ => fun
  | [d1, d2, d3] => { results := [.lit (.bool true)], args := [d1, d2, d3] }
  | _ => none }
def demeritTotalsRow : OpenClaim := { program := "ytagpdpcodcmgkaa", sum := "4f56c7ee2f9efbe953f890d1d909796b174fcd6375169f0f543e1fc4626b6399", func := "variorum/variorumlaw10.DemeritTotals", spec := "demeritTotals", apart := false }
def DemeritTotalsSaid : Prop := demeritTotalsRow.holds Try.pinned (OpenSpec.ofChange demeritTotalsSpec)

/-- ITS FALSE NEIGHBOUR: 'it returns false'. Refute it at one input. -/
def demeritTotalsWrong : ChangeSpec := { name := "demeritTotals", fn := fun _ => fun
  | [d1, d2, d3] => { results := [.lit (.bool false)], args := [d1, d2, d3] }
  | _ => none }
def DemeritTotalsWrongFalsely : Prop := demeritTotalsRow.holds Try.pinned (OpenSpec.ofChange demeritTotalsWrong)

/-- 'variorumlaw10.DemeritApart': WHATEVER THE INPUT: true; the input reads as it did. -/
def demeritApartSpec : ChangeSpec := { name := "demeritApart", fn := fun _ => fun
  | [d1, d2, d3] => { results := [.lit (.bool true)], args := [d1, d2, d3] }
  | _ => none }
def demeritApartRow : OpenClaim := { program := "ytagpdpcodcmgkaa", sum := "4f56c7ee2f9efbe953f890d1d909796b174fcd6375169f0f543e1fc4626b6399", func := "variorum/variorumlaw10.DemeritApart", spec := "demeritApart", apart := false }
def DemeritApartSaid : Prop := demeritApartRow.holds Try.pinned (OpenSpec.ofChange demeritApartSpec)

/-- ITS FALSE NEIGHBOUR: 'it returns false'. Refute it at one input. -/
def demeritApartWrong : ChangeSpec := { name := "demeritApart", fn := fun _ => fun
  | [d1, d2, d3] => { results := [.lit (.bool false)], args := [d1, d2, d3] }
  | _ => none }
def DemeritApartWrongFalsely : Prop := demeritApartRow.holds Try.pinned (OpenSpec.ofChange demeritApartWrong)

/-- 'variorumlaw10.DemeritParts': WHATEVER THE INPUT: true; the input reads as it did. -/
def demeritPartsSpec : ChangeSpec := { name := "demeritParts", fn := fun _ => fun
  | [d1, d2, d3] => { results := [.lit (.bool true)], args := [d1, d2, d3] }
  | _ => none }
def demeritPartsRow : OpenClaim := { program := "ytagpdpcodcmgkaa", sum := "4f56c7ee2f9efbe953f890d1d909796b174fcd6375169f0f543e1fc4626b6399", func := "variorum/variorumlaw10.DemeritParts", spec := "demeritParts", apart := false }
def DemeritPartsSaid : Prop := demeritPartsRow.holds Try.pinned (OpenSpec.ofChange demeritPartsSpec)

/-- ITS FALSE NEIGHBOUR: 'it returns false'. Refute it at one input. -/
def demeritPartsWrong : ChangeSpec := { name := "demeritParts", fn := fun _ => fun
  | [d1, d2, d3] => { results := [.lit (.bool false)], args := [d1, d2, d3] }
  | _ => none }
def DemeritPartsWrongFalsely : Prop := demeritPartsRow.holds Try.pinned (OpenSpec.ofChange demeritPartsWrong)

/- THE SECOND FORM. 'bulk': how many values and letters a reading holds, each counted each time it is reached (what is shared counts as often as it is met; a slice's spare places count too). A statement '..UptoSaid' is the law's where the arguments, and the package variables that the reading takes, are together of bulk at most 1048576: NARROWER than '..Said'. Prove '..Said' where nothing that the law and all that it calls make is longer than what came in: it says more and counts as full. Else prove '..UptoSaid'. A law counts once. -/
mutual
def uptoBulk {H : Type} : DataW H → Nat
  | .lit (.string bytes) => bytes.length + 1
  | .lit _ => 1
  | .nil => 1
  | .ptr d => uptoBulk d + 1
  | .slice elems spare => uptoBulkAll elems + uptoBulkAll spare + 1
  | .agg parts => uptoBulkAll parts + 1
  | .iface _ d => uptoBulk d + 1
  | .map entries => uptoBulkEntries entries + 1
  | .held _ => 1
def uptoBulkAll {H : Type} : List (DataW H) → Nat
  | [] => 0
  | d :: r => uptoBulk d + uptoBulkAll r
def uptoBulkEntries {H : Type} : List (Lit × DataW H) → Nat
  | [] => 0
  | x :: r => uptoBulkEntry x + uptoBulkEntries r
def uptoBulkEntry {H : Type} : Lit × DataW H → Nat
  | (.string bytes, d) => bytes.length + uptoBulk d + 1
  | (_, d) => uptoBulk d + 1
 end
def uptoSmall : (H : Type) → List (DataW H) → Bool := fun _ ds => decide (uptoBulkAll ds ≤ 1048576)
def OpenSpec.upto (s : _root_.Go.ChangeSpec) : _root_.Go.OpenSpec := { _root_.Go.OpenSpec.ofChange s with cond := some uptoSmall }

/-- 'variorumlaw10.DemeritTotals', WHERE WHAT IT READS IS OF BULK AT MOST 1048576: true; the input reads as it did. -/
def demeritTotalsUptoRow : OpenClaim := { program := "ytagpdpcodcmgkaa", sum := "4f56c7ee2f9efbe953f890d1d909796b174fcd6375169f0f543e1fc4626b6399", func := "variorum/variorumlaw10.DemeritTotals", spec := "demeritTotals", apart := false, narrowed := true }
def DemeritTotalsUptoSaid : Prop := demeritTotalsUptoRow.holds Try.pinned (OpenSpec.upto demeritTotalsSpec)

/-- 'variorumlaw10.DemeritApart', WHERE WHAT IT READS IS OF BULK AT MOST 1048576: true; the input reads as it did. -/
def demeritApartUptoRow : OpenClaim := { program := "ytagpdpcodcmgkaa", sum := "4f56c7ee2f9efbe953f890d1d909796b174fcd6375169f0f543e1fc4626b6399", func := "variorum/variorumlaw10.DemeritApart", spec := "demeritApart", apart := false, narrowed := true }
def DemeritApartUptoSaid : Prop := demeritApartUptoRow.holds Try.pinned (OpenSpec.upto demeritApartSpec)

/-- 'variorumlaw10.DemeritParts', WHERE WHAT IT READS IS OF BULK AT MOST 1048576: true; the input reads as it did. -/
def demeritPartsUptoRow : OpenClaim := { program := "ytagpdpcodcmgkaa", sum := "4f56c7ee2f9efbe953f890d1d909796b174fcd6375169f0f543e1fc4626b6399", func := "variorum/variorumlaw10.DemeritParts", spec := "demeritParts", apart := false, narrowed := true }
def DemeritPartsUptoSaid : Prop := demeritPartsUptoRow.holds Try.pinned (OpenSpec.upto demeritPartsSpec)

end Rows
end Go.Proofs.Ytagpdpcodcmgkaa
