/-
  No cell of these rows narrows 'for every input' (looked for: loops, veiled, ifaces, maps, wideKeys, modest, calm, conditions, laid).
  DERIVED. THE GIVEN ROWS OF THIS SEAT. 4 by the template 'for every input the law returns true; each argument reads behind the call as it read before'; 0 by the template 'total and deterministic' (their statements: YtmhnccjdhhcjoaaTotals.lean).
  GIVEN WITH THE SEED: the statements are not yours to turn. If you find one false, say at which input.
  Laid BY PROGRAM, IN A SANDBOX (cutbox-rows.mjs): the forced cells as the released guide's own fill.sh prints them over the translation 71654656b5296ac5… (all of the seat's roots in one cut). By AI agents, Wed Nov 11 2026. No macro, syntax, notation, axiom, sorry.
-/
import Derived.Test.YtmhnccjdhhcjoaaChecked
import GoSem.Claim
import GoSem.ClaimJoined
import GoSem.ClaimMapViews
import Derived.JoinedTies
import Derived.KernelRfl
namespace Go.Proofs.Ytmhnccjdhhcjoaa
/- THE CELL 'sum', in the pinned program and in every row, IS THE sha256 OF THE DUMP (.gsa) THAT YtmhnccjdhhcjoaaProg.lean LOADS. Nothing in Lean hashes anything: it is a label: what it is worth is what the hold of that sum in a sandbox is worth. -/
noncomputable def Try.pinned : Pinned := { name := "ytmhnccjdhhcjoaa", sum := "71654656b5296ac5f4164f41aec0d58beffb842e314c7e286db9002ac4175a8b", checked := Try.checked }
namespace Rows
def none {H : Type} : Left H := { results := [], args := [] }

/-- 'variorumlaw20.BlockPlaces': WHATEVER THE INPUT: true; the input reads as it did. -/
def blockPlacesSpec : ChangeSpec := { name := "blockPlaces", fn := fun _ => fun
  | [d1, d2, d3] => { results := [.lit (.bool true)], args := [d1, d2, d3] }
  | _ => none }
def blockPlacesRow : OpenClaim := { program := "ytmhnccjdhhcjoaa", sum := "71654656b5296ac5f4164f41aec0d58beffb842e314c7e286db9002ac4175a8b", func := "variorum/variorumlaw20.BlockPlaces", spec := "blockPlaces", unfollowed := true, recurses := true, apart := false }
def BlockPlacesSaid : Prop := blockPlacesRow.holds Try.pinned (OpenSpec.ofChange blockPlacesSpec)

/-- ITS FALSE NEIGHBOUR: 'it returns false'. Refute it at one input. -/
def blockPlacesWrong : ChangeSpec := { name := "blockPlaces", fn := fun _ => fun
  | [d1, d2, d3] => { results := [.lit (.bool false)], args := [d1, d2, d3] }
  | _ => none }
def BlockPlacesWrongFalsely : Prop := blockPlacesRow.holds Try.pinned (OpenSpec.ofChange blockPlacesWrong)

/-- 'variorumlaw20.BlockClear': WHATEVER THE INPUT: true; the input reads as it did. -/
def blockClearSpec : ChangeSpec := { name := "blockClear", fn := fun _ => fun
  | [d1, d2] => { results := [.lit (.bool true)], args := [d1, d2] }
  | _ => none }
def blockClearRow : OpenClaim := { program := "ytmhnccjdhhcjoaa", sum := "71654656b5296ac5f4164f41aec0d58beffb842e314c7e286db9002ac4175a8b", func := "variorum/variorumlaw20.BlockClear", spec := "blockClear", unfollowed := true, recurses := true, apart := false }
def BlockClearSaid : Prop := blockClearRow.holds Try.pinned (OpenSpec.ofChange blockClearSpec)

/-- ITS FALSE NEIGHBOUR: 'it returns false'. Refute it at one input. -/
def blockClearWrong : ChangeSpec := { name := "blockClear", fn := fun _ => fun
  | [d1, d2] => { results := [.lit (.bool false)], args := [d1, d2] }
  | _ => none }
def BlockClearWrongFalsely : Prop := blockClearRow.holds Try.pinned (OpenSpec.ofChange blockClearWrong)

/-- 'variorumlaw20.BlockLeast': WHATEVER THE INPUT: true; the input reads as it did. -/
def blockLeastSpec : ChangeSpec := { name := "blockLeast", fn := fun _ => fun
  | [d] => { results := [.lit (.bool true)], args := [d] }
  | _ => none }
def blockLeastRow : OpenClaim := { program := "ytmhnccjdhhcjoaa", sum := "71654656b5296ac5f4164f41aec0d58beffb842e314c7e286db9002ac4175a8b", func := "variorum/variorumlaw20.BlockLeast", spec := "blockLeast", unfollowed := true, recurses := true, apart := false }
def BlockLeastSaid : Prop := blockLeastRow.holds Try.pinned (OpenSpec.ofChange blockLeastSpec)

/-- ITS FALSE NEIGHBOUR: 'it returns false'. Refute it at one input. -/
def blockLeastWrong : ChangeSpec := { name := "blockLeast", fn := fun _ => fun
  | [d] => { results := [.lit (.bool false)], args := [d] }
  | _ => none }
def BlockLeastWrongFalsely : Prop := blockLeastRow.holds Try.pinned (OpenSpec.ofChange blockLeastWrong)

/-- 'variorumlaw20.BlockRows': WHATEVER THE INPUT: true; the input reads as it did. -/
def blockRowsSpec : ChangeSpec := { name := "blockRows", fn := fun _ => fun
  | [d1, d2, d3] => { results := [.lit (.bool true)], args := [d1, d2, d3] }
  | _ => none }
def blockRowsRow : OpenClaim := { program := "ytmhnccjdhhcjoaa", sum := "71654656b5296ac5f4164f41aec0d58beffb842e314c7e286db9002ac4175a8b", func := "variorum/variorumlaw20.BlockRows", spec := "blockRows", unfollowed := true, recurses := true, apart := false }
def BlockRowsSaid : Prop := blockRowsRow.holds Try.pinned (OpenSpec.ofChange blockRowsSpec)

/-- ITS FALSE NEIGHBOUR: 'it returns false'. Refute it at one input. -/
def blockRowsWrong : ChangeSpec := { name := "blockRows", fn := fun _ => fun
  | [d1, d2, d3] => { results := [.lit (.bool false)], args := [d1, d2, d3] }
  | _ => none }
def BlockRowsWrongFalsely : Prop := blockRowsRow.holds Try.pinned (OpenSpec.ofChange blockRowsWrong)

/- THE SECOND FORM. 'bulk': how many values and letters a reading holds, each counted each time it is reached (what is shared counts as often as it is met; a slice's spare places count too). A statement '..UptoSaid' is the law's where the arguments, and the package variables that the reading takes, are together of bulk at most 1048576: NARROWER than '..Said'. Prove '..Said' where nothing that the law and all that it calls make is longer than what came in: it says more and counts as full. Else prove '..UptoSaid'. A law counts once. -/
mutual
def uptoBulk {H : Type} : DataW H → Nat
  | .lit (.string bytes) => bytes.length + 1
  | .lit _ => 1
  | .nil => 1
  | .ptr d => uptoBulk d + 1
  | .slice elems spare => uptoBulkAll elems + uptoBulkAll spare + 1
  | .agg parts => uptoBulkAll parts + 1
  | .iface _ d => uptoBulk d + 1
  | .map entries => uptoBulkEntries entries + 1
  | .held _ => 1
def uptoBulkAll {H : Type} : List (DataW H) → Nat
  | [] => 0
  | d :: r => uptoBulk d + uptoBulkAll r
def uptoBulkEntries {H : Type} : List (Lit × DataW H) → Nat
  | [] => 0
  | x :: r => uptoBulkEntry x + uptoBulkEntries r
def uptoBulkEntry {H : Type} : Lit × DataW H → Nat
  | (.string bytes, d) => bytes.length + uptoBulk d + 1
  | (_, d) => uptoBulk d + 1
 end
def uptoSmall : (H : Type) → List (DataW H) → Bool := fun _ ds => decide (uptoBulkAll ds ≤ 1048576)
def OpenSpec.upto (s : _root_.Go.ChangeSpec) : _root_.Go.OpenSpec := { _root_.Go.OpenSpec.ofChange s with cond := some uptoSmall }

/-- 'variorumlaw20.BlockPlaces', WHERE WHAT IT READS IS OF BULK AT MOST 1048576: true; the input reads as it did. -/
def blockPlacesUptoRow : OpenClaim := { program := "ytmhnccjdhhcjoaa", sum := "71654656b5296ac5f4164f41aec0d58beffb842e314c7e286db9002ac4175a8b", func := "variorum/variorumlaw20.BlockPlaces", spec := "blockPlaces", unfollowed := true, recurses := true, apart := false, narrowed := true }
def BlockPlacesUptoSaid : Prop := blockPlacesUptoRow.holds Try.pinned (OpenSpec.upto blockPlacesSpec)

/-- 'variorumlaw20.BlockClear', WHERE WHAT IT READS IS OF BULK AT MOST 1048576: true; the input reads as it did. -/
def blockClearUptoRow : OpenClaim := { program := "ytmhnccjdhhcjoaa", sum := "71654656b5296ac5f4164f41aec0d58beffb842e314c7e286db9002ac4175a8b", func := "variorum/variorumlaw20.BlockClear", spec := "blockClear", unfollowed := true, recurses := true, apart := false, narrowed := true }
def BlockClearUptoSaid : Prop := blockClearUptoRow.holds Try.pinned (OpenSpec.upto blockClearSpec)

/-- 'variorumlaw20.BlockLeast', WHERE WHAT IT READS IS OF BULK AT MOST 1048576: true; the input reads as it did. -/
def blockLeastUptoRow : OpenClaim := { program := "ytmhnccjdhhcjoaa", sum := "71654656b5296ac5f4164f41aec0d58beffb842e314c7e286db9002ac4175a8b", func := "variorum/variorumlaw20.BlockLeast", spec := "blockLeast", unfollowed := true, recurses := true, apart := false, narrowed := true }
def BlockLeastUptoSaid : Prop := blockLeastUptoRow.holds Try.pinned (OpenSpec.upto blockLeastSpec)

/-- 'variorumlaw20.BlockRows', WHERE WHAT IT READS IS OF BULK AT MOST 1048576: true; the input reads as it did. -/
def blockRowsUptoRow : OpenClaim := { program := "ytmhnccjdhhcjoaa", sum := "71654656b5296ac5f4164f41aec0d58beffb842e314c7e286db9002ac4175a8b", func := "variorum/variorumlaw20.BlockRows", spec := "blockRows", unfollowed := true, recurses := true, apart := false, narrowed := true }
def BlockRowsUptoSaid : Prop := blockRowsUptoRow.holds Try.pinned (OpenSpec.upto blockRowsSpec)

end Rows
end Go.Proofs.Ytmhnccjdhhcjoaa
