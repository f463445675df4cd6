/-
  No cell of these rows narrows 'for every input' (looked for: loops, veiled, ifaces, maps, wideKeys, modest, calm, conditions, laid).
  DERIVED. THE GIVEN ROWS OF THIS SEAT. 5 by the template 'for every input the law returns true; each argument reads behind the call as it read before'; 0 by the template 'total and deterministic' (their statements: YtnkdopihaohimaaTotals.lean).
  GIVEN WITH THE SEED: the statements are not yours to turn. If you find one false, say at which input.
  Laid BY PROGRAM, IN A SANDBOX (cutbox-rows.mjs): the forced cells as the released guide's own fill.sh prints them over the translation 9badfc636a3a2af6… (all of the seat's roots in one cut). By AI agents, Wed Nov 11 2026. No macro, syntax, notation, axiom, sorry.
-/
import Derived.Test.YtnkdopihaohimaaChecked
import GoSem.Claim
import GoSem.ClaimJoined
import GoSem.ClaimMapViews
import Derived.JoinedTies
import Derived.KernelRfl
namespace Go.Proofs.Ytnkdopihaohimaa
/- THE CELL 'sum', in the pinned program and in every row, IS THE sha256 OF THE DUMP (.gsa) THAT YtnkdopihaohimaaProg.lean LOADS. Nothing in Lean hashes anything: it is a label: what it is worth is what the hold of that sum in a sandbox is worth. -/
noncomputable def Try.pinned : Pinned := { name := "ytnkdopihaohimaa", sum := "9badfc636a3a2af69011a355be90fb04536093282b8f155ec756311b5e03f80e", checked := Try.checked }
namespace Rows
def none {H : Type} : Left H := { results := [], args := [] }

/-- 'variorumlaw11.BreakerBest': WHATEVER THE INPUT: true; the input reads as it did. -/
def breakerBestSpec : ChangeSpec := { name := "breakerBest", fn := fun _ => fun
  | [d1, d2, d3] => { results := [.lit (.bool true)], args := [d1, d2, d3] }
  | _ => none }
def breakerBestRow : OpenClaim := { program := "ytnkdopihaohimaa", sum := "9badfc636a3a2af69011a355be90fb04536093282b8f155ec756311b5e03f80e", func := "variorum/variorumlaw11.BreakerBest", spec := "breakerBest", apart := false }
def BreakerBestSaid : Prop := breakerBestRow.holds Try.pinned (OpenSpec.ofChange breakerBestSpec)

/-- ITS FALSE NEIGHBOUR: 'it returns false'. Refute it at one input. -/
def breakerBestWrong : ChangeSpec := { name := "breakerBest", fn := fun _ => fun
  | [d1, d2, d3] => { results := [.lit (.bool false)], args := [d1, d2, d3] }
  | _ => none }
def BreakerBestWrongFalsely : Prop := breakerBestRow.holds Try.pinned (OpenSpec.ofChange breakerBestWrong)

/-- 'variorumlaw11.BreakerLeast': WHATEVER THE INPUT: true; the input reads as it did. -/
def breakerLeastSpec : ChangeSpec := { name := "breakerLeast", fn := fun _ => fun
  | [d1, d2, d3] => { results := [.lit (.bool true)], args := [d1, d2, d3] }
  | _ => none }
def breakerLeastRow : OpenClaim := { program := "ytnkdopihaohimaa", sum := "9badfc636a3a2af69011a355be90fb04536093282b8f155ec756311b5e03f80e", func := "variorum/variorumlaw11.BreakerLeast", spec := "breakerLeast", apart := false }
def BreakerLeastSaid : Prop := breakerLeastRow.holds Try.pinned (OpenSpec.ofChange breakerLeastSpec)

/-- ITS FALSE NEIGHBOUR: 'it returns false'. Refute it at one input. -/
def breakerLeastWrong : ChangeSpec := { name := "breakerLeast", fn := fun _ => fun
  | [d1, d2, d3] => { results := [.lit (.bool false)], args := [d1, d2, d3] }
  | _ => none }
def BreakerLeastWrongFalsely : Prop := breakerLeastRow.holds Try.pinned (OpenSpec.ofChange breakerLeastWrong)

/-- 'variorumlaw11.BreakerAll': WHATEVER THE INPUT: true; the input reads as it did. -/
def breakerAllSpec : ChangeSpec := { name := "breakerAll", fn := fun _ => fun
  | [d1, d2, d3] => { results := [.lit (.bool true)], args := [d1, d2, d3] }
  | _ => none }
def breakerAllRow : OpenClaim := { program := "ytnkdopihaohimaa", sum := "9badfc636a3a2af69011a355be90fb04536093282b8f155ec756311b5e03f80e", func := "variorum/variorumlaw11.BreakerAll", spec := "breakerAll", apart := false }
def BreakerAllSaid : Prop := breakerAllRow.holds Try.pinned (OpenSpec.ofChange breakerAllSpec)

/-- ITS FALSE NEIGHBOUR: 'it returns false'. Refute it at one input. -/
def breakerAllWrong : ChangeSpec := { name := "breakerAll", fn := fun _ => fun
  | [d1, d2, d3] => { results := [.lit (.bool false)], args := [d1, d2, d3] }
  | _ => none }
def BreakerAllWrongFalsely : Prop := breakerAllRow.holds Try.pinned (OpenSpec.ofChange breakerAllWrong)

/-- 'variorumlaw11.BreakerForced': WHATEVER THE INPUT: true; the input reads as it did. -/
def breakerForcedSpec : ChangeSpec := { name := "breakerForced", fn := fun _ => fun
  | [d1, d2] => { results := [.lit (.bool true)], args := [d1, d2] }
  | _ => none }
def breakerForcedRow : OpenClaim := { program := "ytnkdopihaohimaa", sum := "9badfc636a3a2af69011a355be90fb04536093282b8f155ec756311b5e03f80e", func := "variorum/variorumlaw11.BreakerForced", spec := "breakerForced", apart := false }
def BreakerForcedSaid : Prop := breakerForcedRow.holds Try.pinned (OpenSpec.ofChange breakerForcedSpec)

/-- ITS FALSE NEIGHBOUR: 'it returns false'. Refute it at one input. -/
def breakerForcedWrong : ChangeSpec := { name := "breakerForced", fn := fun _ => fun
  | [d1, d2] => { results := [.lit (.bool false)], args := [d1, d2] }
  | _ => none }
def BreakerForcedWrongFalsely : Prop := breakerForcedRow.holds Try.pinned (OpenSpec.ofChange breakerForcedWrong)

/-- 'variorumlaw11.BreakerRises': WHATEVER THE INPUT: true; the input reads as it did. -/
def breakerRisesSpec : ChangeSpec := { name := "breakerRises", fn := fun _ => fun
  | [d1, d2, d3] => { results := [.lit (.bool true)], args := [d1, d2, d3] }
  | _ => none }
def breakerRisesRow : OpenClaim := { program := "ytnkdopihaohimaa", sum := "9badfc636a3a2af69011a355be90fb04536093282b8f155ec756311b5e03f80e", func := "variorum/variorumlaw11.BreakerRises", spec := "breakerRises", apart := false }
def BreakerRisesSaid : Prop := breakerRisesRow.holds Try.pinned (OpenSpec.ofChange breakerRisesSpec)

/-- ITS FALSE NEIGHBOUR: 'it returns false'. Refute it at one input. -/
def breakerRisesWrong : ChangeSpec := { name := "breakerRises", fn := fun _ => fun
  | [d1, d2, d3] => { results := [.lit (.bool false)], args := [d1, d2, d3] }
  | _ => none }
def BreakerRisesWrongFalsely : Prop := breakerRisesRow.holds Try.pinned (OpenSpec.ofChange breakerRisesWrong)

/- THE SECOND FORM. 'bulk': how many values and letters a reading holds, each counted each time it is reached (what is shared counts as often as it is met; a slice's spare places count too). A statement '..UptoSaid' is the law's where the arguments, and the package variables that the reading takes, are together of bulk at most 1048576: NARROWER than '..Said'. Prove '..Said' where nothing that the law and all that it calls make is longer than what came in: it says more and counts as full. Else prove '..UptoSaid'. A law counts once. -/
mutual
def uptoBulk {H : Type} : DataW H → Nat
  | .lit (.string bytes) => bytes.length + 1
  | .lit _ => 1
  | .nil => 1
  | .ptr d => uptoBulk d + 1
  | .slice elems spare => uptoBulkAll elems + uptoBulkAll spare + 1
  | .agg parts => uptoBulkAll parts + 1
  | .iface _ d => uptoBulk d + 1
  | .map entries => uptoBulkEntries entries + 1
  | .held _ => 1
def uptoBulkAll {H : Type} : List (DataW H) → Nat
  | [] => 0
  | d :: r => uptoBulk d + uptoBulkAll r
def uptoBulkEntries {H : Type} : List (Lit × DataW H) → Nat
  | [] => 0
  | x :: r => uptoBulkEntry x + uptoBulkEntries r
def uptoBulkEntry {H : Type} : Lit × DataW H → Nat
  | (.string bytes, d) => bytes.length + uptoBulk d + 1
  | (_, d) => uptoBulk d + 1
 end
def uptoSmall : (H : Type) → List (DataW H) → Bool := fun _ ds => decide (uptoBulkAll ds ≤ 1048576)
def OpenSpec.upto (s : _root_.Go.ChangeSpec) : _root_.Go.OpenSpec := { _root_.Go.OpenSpec.ofChange s with cond := some uptoSmall }

/-- 'variorumlaw11.BreakerBest', WHERE WHAT IT READS IS OF BULK AT MOST 1048576: true; the input reads as it did. -/
def breakerBestUptoRow : OpenClaim := { program := "ytnkdopihaohimaa", sum := "9badfc636a3a2af69011a355be90fb04536093282b8f155ec756311b5e03f80e", func := "variorum/variorumlaw11.BreakerBest", spec := "breakerBest", apart := false, narrowed := true }
def BreakerBestUptoSaid : Prop := breakerBestUptoRow.holds Try.pinned (OpenSpec.upto breakerBestSpec)

/-- 'variorumlaw11.BreakerLeast', WHERE WHAT IT READS IS OF BULK AT MOST 1048576: true; the input reads as it did. -/
def breakerLeastUptoRow : OpenClaim := { program := "ytnkdopihaohimaa", sum := "9badfc636a3a2af69011a355be90fb04536093282b8f155ec756311b5e03f80e", func := "variorum/variorumlaw11.BreakerLeast", spec := "breakerLeast", apart := false, narrowed := true }
def BreakerLeastUptoSaid : Prop := breakerLeastUptoRow.holds Try.pinned (OpenSpec.upto breakerLeastSpec)

/-- 'variorumlaw11.BreakerAll', WHERE WHAT IT READS IS OF BULK AT MOST 1048576: true; the input reads as it did. -/
def breakerAllUptoRow : OpenClaim := { program := "ytnkdopihaohimaa", sum := "9badfc636a3a2af69011a355be90fb04536093282b8f155ec756311b5e03f80e", func := "variorum/variorumlaw11.BreakerAll", spec := "breakerAll", apart := false, narrowed := true }
def BreakerAllUptoSaid : Prop := breakerAllUptoRow.holds Try.pinned (OpenSpec.upto breakerAllSpec)

/-- 'variorumlaw11.BreakerForced', WHERE WHAT IT READS IS OF BULK AT MOST 1048576: true; the input reads as it did. -/
def breakerForcedUptoRow : OpenClaim := { program := "ytnkdopihaohimaa", sum := "9badfc636a3a2af69011a355be90fb04536093282b8f155ec756311b5e03f80e", func := "variorum/variorumlaw11.BreakerForced", spec := "breakerForced", apart := false, narrowed := true }
def BreakerForcedUptoSaid : Prop := breakerForcedUptoRow.holds Try.pinned (OpenSpec.upto breakerForcedSpec)

/-- 'variorumlaw11.BreakerRises', WHERE WHAT IT READS IS OF BULK AT MOST 1048576: true; the input reads as it did. -/
def breakerRisesUptoRow : OpenClaim := { program := "ytnkdopihaohimaa", sum := "9badfc636a3a2af69011a355be90fb04536093282b8f155ec756311b5e03f80e", func := "variorum/variorumlaw11.BreakerRises", spec := "breakerRises", apart := false, narrowed := true }
def BreakerRisesUptoSaid : Prop := breakerRisesUptoRow.holds Try.pinned (OpenSpec.upto breakerRisesSpec)

end Rows
end Go.Proofs.Ytnkdopihaohimaa
