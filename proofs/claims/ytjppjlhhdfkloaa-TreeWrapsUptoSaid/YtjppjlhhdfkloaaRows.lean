/-
  NARROWER THAN 'FOR EVERY INPUT', by the rows' own cells (each row's printed sentence says how): TreeWraps: loops · TreeBack: loops.
  DERIVED. THE GIVEN ROWS OF THIS SEAT. 4 by the template 'for every input the law returns true; each argument reads behind the call as it read before'; 0 by the template 'total and deterministic' (their statements: YtjppjlhhdfkloaaTotals.lean).
  GIVEN WITH THE SEED: the statements are not yours to turn. If you find one false, say at which input.
  Laid BY PROGRAM, IN A SANDBOX (cutbox-rows.mjs): the forced cells as the released guide's own fill.sh prints them over the translation dd907c1ac75b60f5… (all of the seat's roots in one cut). By AI agents, Wed Nov 11 2026. No macro, syntax, notation, axiom, sorry.
-/
import Derived.Test.YtjppjlhhdfkloaaChecked
import GoSem.Claim
import GoSem.ClaimJoined
import GoSem.ClaimMapViews
import Derived.JoinedTies
import Derived.KernelRfl
namespace Go.Proofs.Ytjppjlhhdfkloaa
/- THE CELL 'sum', in the pinned program and in every row, IS THE sha256 OF THE DUMP (.gsa) THAT YtjppjlhhdfkloaaProg.lean LOADS. Nothing in Lean hashes anything: it is a label: what it is worth is what the hold of that sum in a sandbox is worth. -/
noncomputable def Try.pinned : Pinned := { name := "ytjppjlhhdfkloaa", sum := "dd907c1ac75b60f5c3e1ca2375fc917a659c40b7deb05a676cdcb29d580d7404", checked := Try.checked }
namespace Rows
def none {H : Type} : Left H := { results := [], args := [] }

/-- 'variorumlaw06.TreeParses': WHATEVER THE INPUT: true; the input reads as it did. -/
def treeParsesSpec : ChangeSpec := { name := "treeParses", fn := fun _ => fun
  | [d] => { results := [.lit (.bool true)], args := [d] }
  | _ => none }
def treeParsesRow : OpenClaim := { program := "ytjppjlhhdfkloaa", sum := "dd907c1ac75b60f5c3e1ca2375fc917a659c40b7deb05a676cdcb29d580d7404", func := "variorum/variorumlaw06.TreeParses", spec := "treeParses", unfollowed := true, recurses := true, apart := false }
def TreeParsesSaid : Prop := treeParsesRow.holds Try.pinned (OpenSpec.ofChange treeParsesSpec)

/-- ITS FALSE NEIGHBOUR: 'it returns false'. Refute it at one input. -/
def treeParsesWrong : ChangeSpec := { name := "treeParses", fn := fun _ => fun
  | [d] => { results := [.lit (.bool false)], args := [d] }
  | _ => none }
def TreeParsesWrongFalsely : Prop := treeParsesRow.holds Try.pinned (OpenSpec.ofChange treeParsesWrong)

/-- 'variorumlaw06.TreeParts': WHATEVER THE INPUT: true; the input reads as it did. -/
def treePartsSpec : ChangeSpec := { name := "treeParts", fn := fun _ => fun
  | [d1, d2] => { results := [.lit (.bool true)], args := [d1, d2] }
  | _ => none }
def treePartsRow : OpenClaim := { program := "ytjppjlhhdfkloaa", sum := "dd907c1ac75b60f5c3e1ca2375fc917a659c40b7deb05a676cdcb29d580d7404", func := "variorum/variorumlaw06.TreeParts", spec := "treeParts", unfollowed := true, recurses := true, apart := false }
def TreePartsSaid : Prop := treePartsRow.holds Try.pinned (OpenSpec.ofChange treePartsSpec)

/-- ITS FALSE NEIGHBOUR: 'it returns false'. Refute it at one input. -/
def treePartsWrong : ChangeSpec := { name := "treeParts", fn := fun _ => fun
  | [d1, d2] => { results := [.lit (.bool false)], args := [d1, d2] }
  | _ => none }
def TreePartsWrongFalsely : Prop := treePartsRow.holds Try.pinned (OpenSpec.ofChange treePartsWrong)

/-- 'variorumlaw06.TreeWraps': WHATEVER THE INPUT: true; the input reads as it did. -/
def treeWrapsSpec : ChangeSpec := { name := "treeWraps", fn := fun _ => fun
  | [d1, d2] => { results := [.lit (.bool true)], args := [d1, d2] }
  | _ => none }
def treeWrapsRow : OpenClaim := { program := "ytjppjlhhdfkloaa", sum := "dd907c1ac75b60f5c3e1ca2375fc917a659c40b7deb05a676cdcb29d580d7404", func := "variorum/variorumlaw06.TreeWraps", spec := "treeWraps", unfollowed := true, recurses := true, loops := true, apart := false }
def TreeWrapsSaid : Prop := treeWrapsRow.holds Try.pinned (OpenSpec.ofChange treeWrapsSpec)

/-- ITS FALSE NEIGHBOUR: 'it returns false'. Refute it at one input. -/
def treeWrapsWrong : ChangeSpec := { name := "treeWraps", fn := fun _ => fun
  | [d1, d2] => { results := [.lit (.bool false)], args := [d1, d2] }
  | _ => none }
def TreeWrapsWrongFalsely : Prop := treeWrapsRow.holds Try.pinned (OpenSpec.ofChange treeWrapsWrong)

/-- 'variorumlaw06.TreeBack': WHATEVER THE INPUT: true; the input reads as it did. -/
def treeBackSpec : ChangeSpec := { name := "treeBack", fn := fun _ => fun
  | [d1, d2] => { results := [.lit (.bool true)], args := [d1, d2] }
  | _ => none }
def treeBackRow : OpenClaim := { program := "ytjppjlhhdfkloaa", sum := "dd907c1ac75b60f5c3e1ca2375fc917a659c40b7deb05a676cdcb29d580d7404", func := "variorum/variorumlaw06.TreeBack", spec := "treeBack", unfollowed := true, recurses := true, loops := true, apart := false }
def TreeBackSaid : Prop := treeBackRow.holds Try.pinned (OpenSpec.ofChange treeBackSpec)

/-- ITS FALSE NEIGHBOUR: 'it returns false'. Refute it at one input. -/
def treeBackWrong : ChangeSpec := { name := "treeBack", fn := fun _ => fun
  | [d1, d2] => { results := [.lit (.bool false)], args := [d1, d2] }
  | _ => none }
def TreeBackWrongFalsely : Prop := treeBackRow.holds Try.pinned (OpenSpec.ofChange treeBackWrong)

/- THE SECOND FORM. 'bulk': how many values and letters a reading holds, each counted each time it is reached (what is shared counts as often as it is met; a slice's spare places count too). A statement '..UptoSaid' is the law's where the arguments, and the package variables that the reading takes, are together of bulk at most 1048576: NARROWER than '..Said'. Prove '..Said' where nothing that the law and all that it calls make is longer than what came in: it says more and counts as full. Else prove '..UptoSaid'. A law counts once. -/
mutual
def uptoBulk {H : Type} : DataW H → Nat
  | .lit (.string bytes) => bytes.length + 1
  | .lit _ => 1
  | .nil => 1
  | .ptr d => uptoBulk d + 1
  | .slice elems spare => uptoBulkAll elems + uptoBulkAll spare + 1
  | .agg parts => uptoBulkAll parts + 1
  | .iface _ d => uptoBulk d + 1
  | .map entries => uptoBulkEntries entries + 1
  | .held _ => 1
def uptoBulkAll {H : Type} : List (DataW H) → Nat
  | [] => 0
  | d :: r => uptoBulk d + uptoBulkAll r
def uptoBulkEntries {H : Type} : List (Lit × DataW H) → Nat
  | [] => 0
  | x :: r => uptoBulkEntry x + uptoBulkEntries r
def uptoBulkEntry {H : Type} : Lit × DataW H → Nat
  | (.string bytes, d) => bytes.length + uptoBulk d + 1
  | (_, d) => uptoBulk d + 1
 end
def uptoSmall : (H : Type) → List (DataW H) → Bool := fun _ ds => decide (uptoBulkAll ds ≤ 1048576)
def OpenSpec.upto (s : _root_.Go.ChangeSpec) : _root_.Go.OpenSpec := { _root_.Go.OpenSpec.ofChange s with cond := some uptoSmall }

/-- 'variorumlaw06.TreeParses', WHERE WHAT IT READS IS OF BULK AT MOST 1048576: true; the input reads as it did. -/
def treeParsesUptoRow : OpenClaim := { program := "ytjppjlhhdfkloaa", sum := "dd907c1ac75b60f5c3e1ca2375fc917a659c40b7deb05a676cdcb29d580d7404", func := "variorum/variorumlaw06.TreeParses", spec := "treeParses", unfollowed := true, recurses := true, apart := false, narrowed := true }
def TreeParsesUptoSaid : Prop := treeParsesUptoRow.holds Try.pinned (OpenSpec.upto treeParsesSpec)

/-- 'variorumlaw06.TreeParts', WHERE WHAT IT READS IS OF BULK AT MOST 1048576: true; the input reads as it did. -/
def treePartsUptoRow : OpenClaim := { program := "ytjppjlhhdfkloaa", sum := "dd907c1ac75b60f5c3e1ca2375fc917a659c40b7deb05a676cdcb29d580d7404", func := "variorum/variorumlaw06.TreeParts", spec := "treeParts", unfollowed := true, recurses := true, apart := false, narrowed := true }
def TreePartsUptoSaid : Prop := treePartsUptoRow.holds Try.pinned (OpenSpec.upto treePartsSpec)

/-- 'variorumlaw06.TreeWraps', WHERE WHAT IT READS IS OF BULK AT MOST 1048576: true; the input reads as it did. -/
def treeWrapsUptoRow : OpenClaim := { program := "ytjppjlhhdfkloaa", sum := "dd907c1ac75b60f5c3e1ca2375fc917a659c40b7deb05a676cdcb29d580d7404", func := "variorum/variorumlaw06.TreeWraps", spec := "treeWraps", unfollowed := true, recurses := true, loops := true, apart := false, narrowed := true }
def TreeWrapsUptoSaid : Prop := treeWrapsUptoRow.holds Try.pinned (OpenSpec.upto treeWrapsSpec)

/-- 'variorumlaw06.TreeBack', WHERE WHAT IT READS IS OF BULK AT MOST 1048576: true; the input reads as it did. -/
def treeBackUptoRow : OpenClaim := { program := "ytjppjlhhdfkloaa", sum := "dd907c1ac75b60f5c3e1ca2375fc917a659c40b7deb05a676cdcb29d580d7404", func := "variorum/variorumlaw06.TreeBack", spec := "treeBack", unfollowed := true, recurses := true, loops := true, apart := false, narrowed := true }
def TreeBackUptoSaid : Prop := treeBackUptoRow.holds Try.pinned (OpenSpec.upto treeBackSpec)

end Rows
end Go.Proofs.Ytjppjlhhdfkloaa
