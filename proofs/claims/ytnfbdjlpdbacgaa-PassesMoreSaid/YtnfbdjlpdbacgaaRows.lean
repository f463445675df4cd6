/-
  No cell of these rows narrows 'for every input' (looked for: loops, veiled, ifaces, maps, wideKeys, modest, calm, conditions, laid).
  DERIVED. THE GIVEN ROWS OF THIS SEAT. 4 by the template 'for every input the law returns true; each argument reads behind the call as it read before'; 0 by the template 'total and deterministic' (their statements: YtnfbdjlpdbacgaaTotals.lean).
  GIVEN WITH THE SEED: the statements are not yours to turn. If you find one false, say at which input.
  Laid BY PROGRAM, IN A SANDBOX (cutbox-rows.mjs): the forced cells as the released guide's own fill.sh prints them over the translation e36cfb8887c26d38… (all of the seat's roots in one cut). By AI agents, Wed Nov 11 2026. No macro, syntax, notation, axiom, sorry.
-/
import Derived.Test.YtnfbdjlpdbacgaaChecked
import GoSem.Claim
import GoSem.ClaimJoined
import GoSem.ClaimMapViews
import Derived.JoinedTies
import Derived.KernelRfl
namespace Go.Proofs.Ytnfbdjlpdbacgaa
/- THE CELL 'sum', in the pinned program and in every row, IS THE sha256 OF THE DUMP (.gsa) THAT YtnfbdjlpdbacgaaProg.lean LOADS. Nothing in Lean hashes anything: it is a label: what it is worth is what the hold of that sum in a sandbox is worth. -/
noncomputable def Try.pinned : Pinned := { name := "ytnfbdjlpdbacgaa", sum := "e36cfb8887c26d385a56e471f87035bd58b91bca24b2a7aaa533b9cd4238eedd", checked := Try.checked }
namespace Rows
def none {H : Type} : Left H := { results := [], args := [] }

/-- 'variorumlaw24.PassesTells': WHATEVER THE INPUT: true; the input reads as it did. -/
def passesTellsSpec : ChangeSpec := { name := "passesTells", fn := fun _ => fun
  | [d1, d2, d3] => { results := [.lit (.bool true)], args := [d1, d2, d3] }
  | _ => none }
def passesTellsRow : OpenClaim := { program := "ytnfbdjlpdbacgaa", sum := "e36cfb8887c26d385a56e471f87035bd58b91bca24b2a7aaa533b9cd4238eedd", func := "variorum/variorumlaw24.PassesTells", spec := "passesTells", apart := false }
def PassesTellsSaid : Prop := passesTellsRow.holds Try.pinned (OpenSpec.ofChange passesTellsSpec)

/-- ITS FALSE NEIGHBOUR: 'it returns false'. Refute it at one input. -/
def passesTellsWrong : ChangeSpec := { name := "passesTells", fn := fun _ => fun
  | [d1, d2, d3] => { results := [.lit (.bool false)], args := [d1, d2, d3] }
  | _ => none }
def PassesTellsWrongFalsely : Prop := passesTellsRow.holds Try.pinned (OpenSpec.ofChange passesTellsWrong)

/-- 'variorumlaw24.PassesFixed': WHATEVER THE INPUT: true; the input reads as it did. -/
def passesFixedSpec : ChangeSpec := { name := "passesFixed", fn := fun _ => fun
  | [d1, d2, d3] => { results := [.lit (.bool true)], args := [d1, d2, d3] }
  | _ => none }
def passesFixedRow : OpenClaim := { program := "ytnfbdjlpdbacgaa", sum := "e36cfb8887c26d385a56e471f87035bd58b91bca24b2a7aaa533b9cd4238eedd", func := "variorum/variorumlaw24.PassesFixed", spec := "passesFixed", apart := false }
def PassesFixedSaid : Prop := passesFixedRow.holds Try.pinned (OpenSpec.ofChange passesFixedSpec)

/-- ITS FALSE NEIGHBOUR: 'it returns false'. Refute it at one input. -/
def passesFixedWrong : ChangeSpec := { name := "passesFixed", fn := fun _ => fun
  | [d1, d2, d3] => { results := [.lit (.bool false)], args := [d1, d2, d3] }
  | _ => none }
def PassesFixedWrongFalsely : Prop := passesFixedRow.holds Try.pinned (OpenSpec.ofChange passesFixedWrong)

/-- 'variorumlaw24.PassesCircle': WHATEVER THE INPUT: true; the input reads as it did. -/
def passesCircleSpec : ChangeSpec := { name := "passesCircle", fn := fun _ => fun
  | [d1, d2] => { results := [.lit (.bool true)], args := [d1, d2] }
  | _ => none }
def passesCircleRow : OpenClaim := { program := "ytnfbdjlpdbacgaa", sum := "e36cfb8887c26d385a56e471f87035bd58b91bca24b2a7aaa533b9cd4238eedd", func := "variorum/variorumlaw24.PassesCircle", spec := "passesCircle", apart := false }
def PassesCircleSaid : Prop := passesCircleRow.holds Try.pinned (OpenSpec.ofChange passesCircleSpec)

/-- ITS FALSE NEIGHBOUR: 'it returns false'. Refute it at one input. -/
def passesCircleWrong : ChangeSpec := { name := "passesCircle", fn := fun _ => fun
  | [d1, d2] => { results := [.lit (.bool false)], args := [d1, d2] }
  | _ => none }
def PassesCircleWrongFalsely : Prop := passesCircleRow.holds Try.pinned (OpenSpec.ofChange passesCircleWrong)

/-- 'variorumlaw24.PassesMore': WHATEVER THE INPUT: true; the input reads as it did. -/
def passesMoreSpec : ChangeSpec := { name := "passesMore", fn := fun _ => fun
  | [d1, d2, d3] => { results := [.lit (.bool true)], args := [d1, d2, d3] }
  | _ => none }
def passesMoreRow : OpenClaim := { program := "ytnfbdjlpdbacgaa", sum := "e36cfb8887c26d385a56e471f87035bd58b91bca24b2a7aaa533b9cd4238eedd", func := "variorum/variorumlaw24.PassesMore", spec := "passesMore", apart := false }
def PassesMoreSaid : Prop := passesMoreRow.holds Try.pinned (OpenSpec.ofChange passesMoreSpec)

/-- ITS FALSE NEIGHBOUR: 'it returns false'. Refute it at one input. -/
def passesMoreWrong : ChangeSpec := { name := "passesMore", fn := fun _ => fun
  | [d1, d2, d3] => { results := [.lit (.bool false)], args := [d1, d2, d3] }
  | _ => none }
def PassesMoreWrongFalsely : Prop := passesMoreRow.holds Try.pinned (OpenSpec.ofChange passesMoreWrong)

/- THE SECOND FORM. 'bulk': how many values and letters a reading holds, each counted each time it is reached (what is shared counts as often as it is met; a slice's spare places count too). A statement '..UptoSaid' is the law's where the arguments, and the package variables that the reading takes, are together of bulk at most 1048576: NARROWER than '..Said'. Prove '..Said' where nothing that the law and all that it calls make is longer than what came in: it says more and counts as full. Else prove '..UptoSaid'. A law counts once. -/
mutual
def uptoBulk {H : Type} : DataW H → Nat
  | .lit (.string bytes) => bytes.length + 1
  | .lit _ => 1
  | .nil => 1
  | .ptr d => uptoBulk d + 1
  | .slice elems spare => uptoBulkAll elems + uptoBulkAll spare + 1
  | .agg parts => uptoBulkAll parts + 1
  | .iface _ d => uptoBulk d + 1
  | .map entries => uptoBulkEntries entries + 1
  | .held _ => 1
def uptoBulkAll {H : Type} : List (DataW H) → Nat
  | [] => 0
  | d :: r => uptoBulk d + uptoBulkAll r
def uptoBulkEntries {H : Type} : List (Lit × DataW H) → Nat
  | [] => 0
  | x :: r => uptoBulkEntry x + uptoBulkEntries r
def uptoBulkEntry {H : Type} : Lit × DataW H → Nat
  | (.string bytes, d) => bytes.length + uptoBulk d + 1
  | (_, d) => uptoBulk d + 1
 end
def uptoSmall : (H : Type) → List (DataW H) → Bool := fun _ ds => decide (uptoBulkAll ds ≤ 1048576)
def OpenSpec.upto (s : _root_.Go.ChangeSpec) : _root_.Go.OpenSpec := { _root_.Go.OpenSpec.ofChange s with cond := some uptoSmall }

/-- 'variorumlaw24.PassesTells', WHERE WHAT IT READS IS OF BULK AT MOST 1048576: true; the input reads as it did. -/
def passesTellsUptoRow : OpenClaim := { program := "ytnfbdjlpdbacgaa", sum := "e36cfb8887c26d385a56e471f87035bd58b91bca24b2a7aaa533b9cd4238eedd", func := "variorum/variorumlaw24.PassesTells", spec := "passesTells", apart := false, narrowed := true }
def PassesTellsUptoSaid : Prop := passesTellsUptoRow.holds Try.pinned (OpenSpec.upto passesTellsSpec)

/-- 'variorumlaw24.PassesFixed', WHERE WHAT IT READS IS OF BULK AT MOST 1048576: true; the input reads as it did. -/
def passesFixedUptoRow : OpenClaim := { program := "ytnfbdjlpdbacgaa", sum := "e36cfb8887c26d385a56e471f87035bd58b91bca24b2a7aaa533b9cd4238eedd", func := "variorum/variorumlaw24.PassesFixed", spec := "passesFixed", apart := false, narrowed := true }
def PassesFixedUptoSaid : Prop := passesFixedUptoRow.holds Try.pinned (OpenSpec.upto passesFixedSpec)

/-- 'variorumlaw24.PassesCircle', WHERE WHAT IT READS IS OF BULK AT MOST 1048576: true; the input reads as it did. -/
def passesCircleUptoRow : OpenClaim := { program := "ytnfbdjlpdbacgaa", sum := "e36cfb8887c26d385a56e471f87035bd58b91bca24b2a7aaa533b9cd4238eedd", func := "variorum/variorumlaw24.PassesCircle", spec := "passesCircle", apart := false, narrowed := true }
def PassesCircleUptoSaid : Prop := passesCircleUptoRow.holds Try.pinned (OpenSpec.upto passesCircleSpec)

/-- 'variorumlaw24.PassesMore', WHERE WHAT IT READS IS OF BULK AT MOST 1048576: true; the input reads as it did. -/
def passesMoreUptoRow : OpenClaim := { program := "ytnfbdjlpdbacgaa", sum := "e36cfb8887c26d385a56e471f87035bd58b91bca24b2a7aaa533b9cd4238eedd", func := "variorum/variorumlaw24.PassesMore", spec := "passesMore", apart := false, narrowed := true }
def PassesMoreUptoSaid : Prop := passesMoreUptoRow.holds Try.pinned (OpenSpec.upto passesMoreSpec)

end Rows
end Go.Proofs.Ytnfbdjlpdbacgaa
